import Derived.Test.YteodlgmcniikpaaCnF
namespace Go.Proofs.Yteodlgmcniikpaa
open Go.RowKit Go.TravelBase Go.TravelAbs
set_option linter.unusedVariables false
set_option linter.unusedSimpArgs false

















/-! ### The dice's commands -/
theorem pickI (l : List Int) (n : Int) (h : 0 ≤ n ∧ n < l.length) : ∃ v ∈ l, (l.map iA).getD n.toNat .any = .lit (.int .i64 v) := by
  have h1 : n.toNat < l.length := by omega
  exact ⟨l[n.toNat], List.getElem_mem h1, ia_at h1⟩
def sgN : Sg := fun f args ls =>
  match f, args, ls with
  | 40, [.ptr 0 0 0, .lit (.int .i64 n)], [.li 2 [.agg [L, .lit (.int .i64 z)]]] => some (.lit (.int .i64 (nxI L z n)), [.li 2 [.agg [L, .lit (.int .i64 (nxZ L z))]]], DcOK L z ∧ 1 ≤ n ∧ n ≤ 4611686018427387904)
  | 21, [.ptr 0 0 0, .lit (.int .i64 n)], [.li 2 [.agg [L, .lit (.int .i64 z)]]] => some (.lit (.bool (nxI L z n == n - 1)), [.li 2 [.agg [L, .lit (.int .i64 (nxZ L z))]]], DcOK L z ∧ 1 ≤ n ∧ n ≤ 4611686018427387904)
  | 41, [.ptr 0 0 0, .lit (.int .i64 n)], [.li 2 [.agg [L, .lit (.int .i64 z)]]] => some (.fr (.by_ (dyB L z n)), [.li 2 [.agg [L, .lit (.int .i64 (dyZ L z n))]]], DcOK L z ∧ 0 ≤ n ∧ n ≤ 1000000)
  | _, _, _ => none
theorem sgN_ok : SgOK Try.prog sgN := by
  intro f args ls r ls' vc h hvc
  unfold sgN at h
  split at h <;> first | (simp only [Option.some.injEq, Prod.mk.injEq] at h; obtain ⟨rfl, rfl, rfl⟩ := h) | cases h
  · exact ⟨(fnOK Try.func40 (by decide) rfl), next_s _ _ _ hvc.1 hvc.2.1 hvc.2.2⟩
  · exact ⟨(fnOK Try.func21 (by decide) rfl), one_s _ _ _ hvc.1 hvc.2.1 hvc.2.2⟩
  · exact ⟨(fnOK Try.func41 (by decide) rfl), bytes_s _ _ _ hvc.1 hvc.2.1 hvc.2.2⟩
def MadC (c : Cm) : Prop := ValC c ∧ (c.cls = 0 ∨ c.cls = 128 ∨ c.cls = 224)
def cmV (c : Cm) (d : List UInt8) (x : Int) : Cm := ⟨c.cls, c.ins, c.p1, c.p2, d, x⟩
theorem command_e (L : AV) (z : Int) (hd : DcOK L z) : FnE Try.prog 20 [.ptr 0 0 0] [.li 2 [.agg [L, .lit (.int .i64 z)]]] (I := Cm × Int) (fun i => MadC i.1 ∧ DcOK L i.2) (fun i => .agg [.lit (.int .i64 i.1.cls), .lit (.int .i64 i.1.ins), .lit (.int .i64 i.1.p1), .lit (.int .i64 i.1.p2), .by_ i.1.data, .lit (.int .i64 i.1.exp)]) (fun i => [.li 2 [.agg [L, .lit (.int .i64 i.2)]]]) := by
  have hs := sgN_ok
  have hT := hd.tr
  have hd1 := dc_nx hd
  have hd2 := dc_nx hd1
  have hd3 := dc_nx hd2
  have hd4 := dc_nx hd3
  have hr1 := nx_rng L z 5 (by omega)
  have hr2 := nx_rng L (nxZ L z) 256 (by omega)
  have hr3 := nx_rng L (nxZ L (nxZ L z)) 256 (by omega)
  have hr4 := nx_rng L (nxZ L (nxZ L (nxZ L z))) 256 (by omega)
  obtain ⟨a, hv, ev⟩ := pickI [0, 0, 0, 128, 224] (nxI L z 5) (by simpa using hr1)
  simp only [List.map_cons, List.map_nil, iA] at ev
  have hva : a = 0 ∨ a = 128 ∨ a = 224 := by simp only [List.mem_cons, List.not_mem_nil, or_false] at hv; omega
  refine FnE.of Try.func20 rfl (N := 36) rfl (by simp) (by simp) fun X hX => ?_
  simp only [tmArgs, lentH, Nat.reduceAdd]
  refine WA.regionK ty_ok hs fun K hK => ?_
  simp only [go_sem, Nat.reduceAdd, Nat.reduceLT, Nat.reduceLeDiff, Nat.reduceEqDiff, Nat.reduceSub, Nat.reduceMul, Nat.reduceBEq, Nat.reduceBNe, Nat.reducePow, Nat.reduceDiv, Int.reduceLE, Int.reduceLT, Int.reduceToNat, Int.reduceNeg, Int.reduceAdd, Int.reduceSub, Int.reduceEq, reduceIte, reduceCtorEq, UInt8.reduceOfNat, true_and]
  first
  | refine hK _ ?_
  | refine And.intro (by first | omega | (simp; done) | (simp; omega) | (simp +contextual; done) | (simp_all; done) | (simp_all; omega)) (hK _ ?_)
  clear hK K
  refine WA.drawnH mixed_ ty_ok hs (tbl := [[], [], [1], [0, 1, 2], [0, 1, 2, 3], [], [1, 2, 5], [], [1, 2, 5, 6, 7], [], [1, 2, 5, 6, 7, 8, 9], [], [1, 2, 5, 6, 7, 8, 9, 10, 11], [0, 1, 2, 3, 4, 5, 6, 7, 8, 9, 10, 11, 12], [], [0, 1, 2, 3, 4, 5, 6, 7, 8, 9, 10, 11, 12, 13, 14]]) (nb := [2, 4, 6, 8, 10, 12, 15]) (hk := [[], [], [], [], [0], [], [], [], [], [], [], [], [], [], [], []]) (by kernel_rfl) fun K hK => ?_
  simp only [go_sem, Nat.reduceAdd, Nat.reduceLT, Nat.reduceLeDiff, Nat.reduceEqDiff, Nat.reduceSub, Nat.reduceMul, Nat.reduceBEq, Nat.reduceBNe, Nat.reducePow, Nat.reduceDiv, Int.reduceLE, Int.reduceLT, Int.reduceToNat, Int.reduceNeg, Int.reduceAdd, Int.reduceSub, Int.reduceEq, reduceIte, reduceCtorEq, UInt8.reduceOfNat, sgN, hd, hd1, hd2, hd3, hd4, hT, ev]
  repeat refine And.intro (by first | omega | assumption | (simp; done) | (simp; omega) | (simp +contextual; done) | (simp_all; done) | (simp_all; omega)) ?_
  refine hK _ ?_
  clear hK K
  have hl0 := dyB_len L (nxZ L (nxZ L (nxZ L (nxZ L z)))) 40 (by omega)
  have hd5 : DcOK L (dyZ L (nxZ L (nxZ L (nxZ L (nxZ L z)))) 40) := dc_dy hd4
  obtain ⟨b, hb⟩ : ∃ b, nxI L (nxZ L z) 256 = b := ⟨_, rfl⟩
  obtain ⟨p, hp⟩ : ∃ b, nxI L (nxZ L (nxZ L z)) 256 = b := ⟨_, rfl⟩
  obtain ⟨q, hq⟩ : ∃ b, nxI L (nxZ L (nxZ L (nxZ L z))) 256 = b := ⟨_, rfl⟩
  obtain ⟨d0, hd0⟩ : ∃ b, dyB L (nxZ L (nxZ L (nxZ L (nxZ L z)))) 40 = b := ⟨_, rfl⟩
  obtain ⟨z0, hz0⟩ : ∃ b, dyZ L (nxZ L (nxZ L (nxZ L (nxZ L z)))) 40 = b := ⟨_, rfl⟩
  rw [hb] at hr2
  rw [hp] at hr3
  rw [hq] at hr4
  rw [hd0] at hl0
  rw [hz0] at hd5
  rw [hb, hp, hq, hd0, hz0]
  clear hd hd1 hd2 hd3 hd4 hr1 ev
  refine WA.norm 2120 fun K hK => ?_
  simp only [go_sem, Nat.reduceAdd, Nat.reduceLT, Nat.reduceLeDiff, Nat.reduceEqDiff, Nat.reduceSub, Nat.reduceMul, Nat.reduceBEq, Nat.reduceBNe, Nat.reducePow, Nat.reduceDiv, Int.reduceLE, Int.reduceLT, Int.reduceToNat, Int.reduceNeg, Int.reduceAdd, Int.reduceSub, Int.reduceEq, reduceIte, reduceCtorEq, UInt8.reduceOfNat, hT]
  first
  | refine hK _ ?_
  | refine And.intro (by first | omega | (simp; done) | (simp; omega) | (simp_all; done) | (simp_all; omega)) (hK _ ?_)
  clear hK K
  refine WA.join (fun (i : List UInt8 × Int) => ⟨[(0, .ptr 0 0 0), (2, .ptr 2000 0 0), (3, .ptr 2120 0 0)], [(2120, ⟨.li 6 [.agg [.lit (.int .i64 a), .lit (.int .i64 b), .lit (.int .i64 p), .lit (.int .i64 q), .by_ i.1, .lit (.int .i64 (-1))]], 0, false⟩), (2000, ⟨.li 6 [.agg [.lit (.int .i64 0), .lit (.int .i64 0), .lit (.int .i64 0), .lit (.int .i64 0), .lit (.slice none 0 0), .lit (.int .i64 0)]], 0, false⟩), (0, ⟨.li 2 [.agg [L, .lit (.int .i64 i.2)]], 0, true⟩)], 4000, 36⟩) (fun i => (i.1.length : Int) ≤ 4096 ∧ DcOK L i.2) ?_ ?_
  ·
    have hd6 := dc_nx hd5
    refine WA.regionK ty_ok hs fun K hK => ?_
    simp only [go_sem, Nat.reduceAdd, Nat.reduceLT, Nat.reduceLeDiff, Nat.reduceEqDiff, Nat.reduceSub, Nat.reduceMul, Nat.reduceBEq, Nat.reduceBNe, Nat.reducePow, Nat.reduceDiv, Int.reduceLE, Int.reduceLT, Int.reduceToNat, Int.reduceNeg, Int.reduceAdd, Int.reduceSub, Int.reduceEq, reduceIte, reduceCtorEq, UInt8.reduceOfNat, sgN, hd5, hT]
    first
    | refine hK _ ?_
    | refine And.intro (by first | omega | (simp; done) | (simp; omega) | (simp +contextual; done) | (simp_all; done) | (simp_all; omega)) (hK _ ?_)
    clear hK K
    refine WA.cond rfl (fun h => ?_) (fun h => ?_)
    ·
      have hr5 := nx_rng L (nxZ L z0) 4 (by omega)
      obtain ⟨n, hn, en⟩ := pickI [255, 256, 300, 3000] (nxI L (nxZ L z0) 4) (by simpa using hr5)
      simp only [List.map_cons, List.map_nil, iA] at en
      have hn2 : 0 ≤ n ∧ n ≤ 4096 := by simp only [List.mem_cons, List.not_mem_nil, or_false] at hn; omega
      refine WA.regionE ty_ok hs fun K hK => ?_
      simp only [go_sem, Nat.reduceAdd, Nat.reduceLT, Nat.reduceLeDiff, Nat.reduceEqDiff, Nat.reduceSub, Nat.reduceMul, Nat.reduceBEq, Nat.reduceBNe, Nat.reducePow, Nat.reduceDiv, Int.reduceLE, Int.reduceLT, Int.reduceToNat, Int.reduceNeg, Int.reduceAdd, Int.reduceSub, Int.reduceEq, reduceIte, reduceCtorEq, UInt8.reduceOfNat, sgN, hd6, hT, en]
      repeat refine And.intro (by first | omega | assumption | (simp; done) | (simp; omega) | (simp +contextual; done) | (simp_all; done) | (simp_all; omega)) ?_
      refine hK _ (WN.mk ?_)
      clear hK K
      repeat with_reducible refine WN.b ?_
      refine WN.norm 2120 fun K hK => ?_
      simp only [go_sem, Nat.reduceAdd, Nat.reduceLT, Nat.reduceLeDiff, Nat.reduceEqDiff, Nat.reduceSub, Nat.reduceMul, Nat.reduceBEq, Nat.reduceBNe, Nat.reducePow, Nat.reduceDiv, Int.reduceLE, Int.reduceLT, Int.reduceToNat, Int.reduceNeg, Int.reduceAdd, Int.reduceSub, Int.reduceEq, reduceIte, reduceCtorEq, UInt8.reduceOfNat, hT]
      repeat refine And.intro (by first | omega | assumption | (simp; done) | (simp; omega) | (simp +contextual; done) | (simp_all; done) | (simp_all; omega)) ?_
      refine hK _ (WN.mk ?_)
      repeat with_reducible refine WN.b ?_
      refine WN.join hX (fun k => k) ((List.replicate n.toNat 0, nxZ L (nxZ L z0))) (⟨by simp; omega, dc_nx hd6⟩) (by simp only [go_sem, Int.natCast_add, Nat.reduceAdd, Nat.reduceLT, Nat.reduceLeDiff, Nat.reduceEqDiff, Nat.reduceSub, Nat.reduceMul, Nat.reduceBEq, Nat.reduceBNe, Nat.reducePow, Nat.reduceDiv, Int.reduceLE, Int.reduceLT, Int.reduceToNat, Int.reduceNeg, Int.reduceAdd, Int.reduceSub, Int.reduceEq, reduceIte, reduceCtorEq, UInt8.reduceOfNat, hT] <;> (try and_intros) <;> (try omega))
    ·
      refine WA.skipN ?_
      repeat with_reducible refine WN.b ?_
      refine WN.join hX (fun k => k) ((d0, nxZ L z0)) (⟨by show (d0.length : Int) ≤ _; omega, hd6⟩) (by simp only [go_sem, Int.natCast_add, Nat.reduceAdd, Nat.reduceLT, Nat.reduceLeDiff, Nat.reduceEqDiff, Nat.reduceSub, Nat.reduceMul, Nat.reduceBEq, Nat.reduceBNe, Nat.reducePow, Nat.reduceDiv, Int.reduceLE, Int.reduceLT, Int.reduceToNat, Int.reduceNeg, Int.reduceAdd, Int.reduceSub, Int.reduceEq, reduceIte, reduceCtorEq, UInt8.reduceOfNat, hT] <;> (try and_intros) <;> (try omega))
  rintro ⟨d, z1⟩ ⟨hl, hd6⟩
  simp only at hl hd6
  have hd7 := dc_nx hd6
  have hd8 := dc_nx hd7
  refine WA.seq ?_
  refine WA.regionK ty_ok hs fun K hK => ?_
  simp only [go_sem, Nat.reduceAdd, Nat.reduceLT, Nat.reduceLeDiff, Nat.reduceEqDiff, Nat.reduceSub, Nat.reduceMul, Nat.reduceBEq, Nat.reduceBNe, Nat.reducePow, Nat.reduceDiv, Int.reduceLE, Int.reduceLT, Int.reduceToNat, Int.reduceNeg, Int.reduceAdd, Int.reduceSub, Int.reduceEq, reduceIte, reduceCtorEq, UInt8.reduceOfNat, sgN, hd6, hT]
  first
  | refine hK _ ?_
  | refine And.intro (by first | omega | (simp; done) | (simp; omega) | (simp +contextual; done) | (simp_all; done) | (simp_all; omega)) (hK _ ?_)
  clear hK K
  refine WA.cond rfl (fun h => ?_) (fun h => ?_)
  ·
    have hr5 := nx_rng L (nxZ L z1) 7 (by omega)
    obtain ⟨n, hn, en⟩ := pickI [1, 8, 255, 256, 257, 65535, 65536] (nxI L (nxZ L z1) 7) (by simpa using hr5)
    simp only [List.map_cons, List.map_nil, iA] at en
    have hn2 : 1 ≤ n ∧ n ≤ 65536 := by simp only [List.mem_cons, List.not_mem_nil, or_false] at hn; omega
    refine WA.regionE ty_ok hs fun K hK => ?_
    simp only [go_sem, Nat.reduceAdd, Nat.reduceLT, Nat.reduceLeDiff, Nat.reduceEqDiff, Nat.reduceSub, Nat.reduceMul, Nat.reduceBEq, Nat.reduceBNe, Nat.reducePow, Nat.reduceDiv, Int.reduceLE, Int.reduceLT, Int.reduceToNat, Int.reduceNeg, Int.reduceAdd, Int.reduceSub, Int.reduceEq, reduceIte, reduceCtorEq, UInt8.reduceOfNat, sgN, hd7, hT, en]
    repeat refine And.intro (by first | omega | assumption | (simp; done) | (simp; omega) | (simp +contextual; done) | (simp_all; done) | (simp_all; omega)) ?_
    with_reducible refine hK _ (WN.mk ?_)
    clear hK K
    repeat first | with_reducible refine WN.t ?_ | with_reducible refine WN.b ?_
    refine WA.regionK ty_ok hs fun K hK => ?_
    simp only [go_sem, Nat.reduceAdd, Nat.reduceLT, Nat.reduceLeDiff, Nat.reduceEqDiff, Nat.reduceSub, Nat.reduceMul, Nat.reduceBEq, Nat.reduceBNe, Nat.reducePow, Nat.reduceDiv, Int.reduceLE, Int.reduceLT, Int.reduceToNat, Int.reduceNeg, Int.reduceAdd, Int.reduceSub, Int.reduceEq, reduceIte, reduceCtorEq, UInt8.reduceOfNat, true_and]
    first
    | refine hK _ ?_
    | refine And.intro (by first | omega | (simp; done) | (simp; omega) | (simp +contextual; done) | (simp_all; done) | (simp_all; omega)) (hK _ ?_)
    clear hK K
    refine WA.retE ty_ok (xs := [.agg [.lit (.int .i64 a), .lit (.int .i64 b), .lit (.int .i64 p), .lit (.int .i64 q), .by_ d, .lit (.int .i64 n)]]) (ls' := [.li 2 [.agg [L, .lit (.int .i64 (nxZ L (nxZ L z1)))]]]) (rv := [.cell 2 24]) rfl hX (by simp) (fun _ => rfl) (fun _ _ h => ⟨(⟨a, b, p, q, d, n⟩, nxZ L (nxZ L z1)), ⟨⟨⟨⟨⟨by show 0 ≤ b; omega, by show b ≤ 255; omega⟩, ⟨by show 0 ≤ p; omega, by show p ≤ 255; omega⟩, ⟨by show 0 ≤ q; omega, by show q ≤ 255; omega⟩⟩, ⟨by show 0 ≤ a; omega, by show a ≤ 254; omega⟩, hl, .inr hn2⟩, hva⟩, hd8⟩, h⟩) ?_
    simp only [go_sem, Nat.reduceAdd, Nat.reduceLT, Nat.reduceLeDiff, Nat.reduceEqDiff, Nat.reduceSub, Nat.reduceMul, Nat.reduceBEq, Nat.reduceBNe, Nat.reducePow, Nat.reduceDiv, Int.reduceLE, Int.reduceLT, Int.reduceToNat, Int.reduceNeg, Int.reduceAdd, Int.reduceSub, Int.reduceEq, reduceIte, reduceCtorEq, UInt8.reduceOfNat, hT]
  ·
    with_reducible refine WA.skipN ?_
    repeat first | with_reducible refine WN.t ?_ | with_reducible refine WN.b ?_
    refine WA.regionK ty_ok hs fun K hK => ?_
    simp only [go_sem, Nat.reduceAdd, Nat.reduceLT, Nat.reduceLeDiff, Nat.reduceEqDiff, Nat.reduceSub, Nat.reduceMul, Nat.reduceBEq, Nat.reduceBNe, Nat.reducePow, Nat.reduceDiv, Int.reduceLE, Int.reduceLT, Int.reduceToNat, Int.reduceNeg, Int.reduceAdd, Int.reduceSub, Int.reduceEq, reduceIte, reduceCtorEq, UInt8.reduceOfNat, true_and]
    first
    | refine hK _ ?_
    | refine And.intro (by first | omega | (simp; done) | (simp; omega) | (simp +contextual; done) | (simp_all; done) | (simp_all; omega)) (hK _ ?_)
    clear hK K
    refine WA.retE ty_ok (xs := [.agg [.lit (.int .i64 a), .lit (.int .i64 b), .lit (.int .i64 p), .lit (.int .i64 q), .by_ d, .lit (.int .i64 (-1))]]) (ls' := [.li 2 [.agg [L, .lit (.int .i64 (nxZ L z1))]]]) (rv := [.cell 2 24]) rfl hX (by simp) (fun _ => rfl) (fun _ _ h => ⟨(⟨a, b, p, q, d, -1⟩, nxZ L z1), ⟨⟨⟨⟨⟨by show 0 ≤ b; omega, by show b ≤ 255; omega⟩, ⟨by show 0 ≤ p; omega, by show p ≤ 255; omega⟩, ⟨by show 0 ≤ q; omega, by show q ≤ 255; omega⟩⟩, ⟨by show 0 ≤ a; omega, by show a ≤ 254; omega⟩, hl, .inl rfl⟩, hva⟩, hd7⟩, h⟩) ?_
    simp only [go_sem, Nat.reduceAdd, Nat.reduceLT, Nat.reduceLeDiff, Nat.reduceEqDiff, Nat.reduceSub, Nat.reduceMul, Nat.reduceBEq, Nat.reduceBNe, Nat.reducePow, Nat.reduceDiv, Int.reduceLE, Int.reduceLT, Int.reduceToNat, Int.reduceNeg, Int.reduceAdd, Int.reduceSub, Int.reduceEq, reduceIte, reduceCtorEq, UInt8.reduceOfNat, hT]
theorem oddcommand_e (L : AV) (z : Int) (hd : DcOK L z) (c : Cm) : FnE Try.prog 23 [.ptr 0 0 0, .agg [.lit (.int .i64 c.cls), .lit (.int .i64 c.ins), .lit (.int .i64 c.p1), .lit (.int .i64 c.p2), .by_ c.data, .lit (.int .i64 c.exp)]] [.li 2 [.agg [L, .lit (.int .i64 z)]]] (I := Cm × Int) (fun i => (i.1.data = c.data ∨ (i.1.data.length : Int) ≤ 4200) ∧ DcOK L i.2) (fun i => .agg [.lit (.int .i64 i.1.cls), .lit (.int .i64 i.1.ins), .lit (.int .i64 i.1.p1), .lit (.int .i64 i.1.p2), .by_ i.1.data, .lit (.int .i64 i.1.exp)]) (fun i => [.li 2 [.agg [L, .lit (.int .i64 i.2)]]]) := by
  have hs := sgN_ok
  have hT := hd.tr
  have hd1 := dc_nx hd
  have hd2 := dc_nx hd1
  obtain ⟨k, hk⟩ : ∃ k, nxI L z 6 = k := ⟨_, rfl⟩
  obtain ⟨q, hq⟩ : ∃ k, nxZ L z = k := ⟨_, rfl⟩
  rw [hq] at hd1 hd2
  refine FnE.of Try.func23 rfl (N := 53) rfl (by simp) (by simp) fun X hX => ?_
  simp only [tmArgs, lentH, Nat.reduceAdd]
  refine WA.regionK ty_ok hs fun K hK => ?_
  simp only [go_sem, Nat.reduceAdd, Nat.reduceLT, Nat.reduceLeDiff, Nat.reduceEqDiff, Nat.reduceSub, Nat.reduceMul, Nat.reduceBEq, Nat.reduceBNe, Nat.reducePow, Nat.reduceDiv, Int.reduceLE, Int.reduceLT, Int.reduceToNat, Int.reduceNeg, Int.reduceAdd, Int.reduceSub, Int.reduceEq, reduceIte, reduceCtorEq, UInt8.reduceOfNat, true_and]
  first
  | refine hK _ ?_
  | refine And.intro (by first | omega | (simp; done) | (simp; omega) | (simp +contextual; done) | (simp_all; done) | (simp_all; omega)) (hK _ ?_)
  clear hK K
  refine WA.seq ?_
  refine WA.regionK ty_ok hs fun K hK => ?_
  simp only [go_sem, Nat.reduceAdd, Nat.reduceLT, Nat.reduceLeDiff, Nat.reduceEqDiff, Nat.reduceSub, Nat.reduceMul, Nat.reduceBEq, Nat.reduceBNe, Nat.reducePow, Nat.reduceDiv, Int.reduceLE, Int.reduceLT, Int.reduceToNat, Int.reduceNeg, Int.reduceAdd, Int.reduceSub, Int.reduceEq, reduceIte, reduceCtorEq, UInt8.reduceOfNat, sgN, hd, hT, hk, hq]
  first
  | refine hK _ ?_
  | refine And.intro (by first | omega | (simp; done) | (simp; omega) | (simp +contextual; done) | (simp_all; done) | (simp_all; omega)) (hK _ ?_)
  clear hK K
  refine WA.block ?_
  refine WA.regionK ty_ok hs fun K hK => ?_
  simp only [go_sem, Nat.reduceAdd, Nat.reduceLT, Nat.reduceLeDiff, Nat.reduceEqDiff, Nat.reduceSub, Nat.reduceMul, Nat.reduceBEq, Nat.reduceBNe, Nat.reducePow, Nat.reduceDiv, Int.reduceLE, Int.reduceLT, Int.reduceToNat, Int.reduceNeg, Int.reduceAdd, Int.reduceSub, Int.reduceEq, reduceIte, reduceCtorEq, UInt8.reduceOfNat, true_and]
  first
  | refine hK _ ?_
  | refine And.intro (by first | omega | (simp; done) | (simp; omega) | (simp +contextual; done) | (simp_all; done) | (simp_all; omega)) (hK _ ?_)
  clear hK K
  refine WA.cond rfl (fun h => ?_) (fun h => ?_)
  ·
    clear h
    obtain ⟨v, hv, ev⟩ := pickI [-1, 4, 8, 12, 16, 28, 239, 243, 255, 256] (nxI L q 10) (by have := nx_rng L q 10 (by omega); simpa using this)
    simp only [List.map_cons, List.map_nil, iA] at ev
    have hr5 := nx_rng L q 10 (by omega)
    refine WA.regionE ty_ok hs fun K hK => ?_
    simp only [go_sem, Nat.reduceAdd, Nat.reduceLT, Nat.reduceLeDiff, Nat.reduceEqDiff, Nat.reduceSub, Nat.reduceMul, Nat.reduceBEq, Nat.reduceBNe, Nat.reducePow, Nat.reduceDiv, Int.reduceLE, Int.reduceLT, Int.reduceToNat, Int.reduceNeg, Int.reduceAdd, Int.reduceSub, Int.reduceEq, reduceIte, reduceCtorEq, UInt8.reduceOfNat, sgN, hd1, hT, ev]
    repeat refine And.intro (by first | omega | assumption | (simp; done) | (simp; omega) | (simp +contextual; done) | (simp_all; done) | (simp_all; omega)) ?_
    with_reducible refine hK _ (WN.mk ?_)
    clear hK K
    repeat first | with_reducible refine WN.t ?_ | with_reducible refine WN.b ?_
    refine WA.regionK ty_ok hs fun K hK => ?_
    simp only [go_sem, Nat.reduceAdd, Nat.reduceLT, Nat.reduceLeDiff, Nat.reduceEqDiff, Nat.reduceSub, Nat.reduceMul, Nat.reduceBEq, Nat.reduceBNe, Nat.reducePow, Nat.reduceDiv, Int.reduceLE, Int.reduceLT, Int.reduceToNat, Int.reduceNeg, Int.reduceAdd, Int.reduceSub, Int.reduceEq, reduceIte, reduceCtorEq, UInt8.reduceOfNat, true_and]
    first
    | refine hK _ ?_
    | refine And.intro (by first | omega | (simp; done) | (simp; omega) | (simp +contextual; done) | (simp_all; done) | (simp_all; omega)) (hK _ ?_)
    clear hK K
    refine WA.retE ty_ok (xs := [.agg [.lit (.int .i64 v), .lit (.int .i64 c.ins), .lit (.int .i64 c.p1), .lit (.int .i64 c.p2), .by_ c.data, .lit (.int .i64 c.exp)]]) (ls' := [.li 2 [.agg [L, .lit (.int .i64 (nxZ L q))]]]) (rv := [.cell 4 24]) rfl hX (by simp) (fun _ => rfl) (fun _ _ h => ⟨(⟨v, c.ins, c.p1, c.p2, c.data, c.exp⟩, nxZ L q), ⟨.inl rfl, hd2⟩, h⟩) ?_
    simp only [go_sem, Nat.reduceAdd, Nat.reduceLT, Nat.reduceLeDiff, Nat.reduceEqDiff, Nat.reduceSub, Nat.reduceMul, Nat.reduceBEq, Nat.reduceBNe, Nat.reducePow, Nat.reduceDiv, Int.reduceLE, Int.reduceLT, Int.reduceToNat, Int.reduceNeg, Int.reduceAdd, Int.reduceSub, Int.reduceEq, reduceIte, reduceCtorEq, UInt8.reduceOfNat, hT]
  ·
    refine WA.regionK ty_ok hs fun K hK => ?_
    simp only [go_sem, Nat.reduceAdd, Nat.reduceLT, Nat.reduceLeDiff, Nat.reduceEqDiff, Nat.reduceSub, Nat.reduceMul, Nat.reduceBEq, Nat.reduceBNe, Nat.reducePow, Nat.reduceDiv, Int.reduceLE, Int.reduceLT, Int.reduceToNat, Int.reduceNeg, Int.reduceAdd, Int.reduceSub, Int.reduceEq, reduceIte, reduceCtorEq, UInt8.reduceOfNat, true_and]
    first
    | refine hK _ ?_
    | refine And.intro (by first | omega | (simp; done) | (simp; omega) | (simp +contextual; done) | (simp_all; done) | (simp_all; omega)) (hK _ ?_)
    clear hK K
    refine WA.cond rfl (fun h => ?_) (fun h => ?_)
    ·
      clear h
      obtain ⟨v, hv, ev⟩ := pickI [-1, 256] (nxI L q 2) (by have := nx_rng L q 2 (by omega); simpa using this)
      simp only [List.map_cons, List.map_nil, iA] at ev
      have hr5 := nx_rng L q 2 (by omega)
      refine WA.regionE ty_ok hs fun K hK => ?_
      simp only [go_sem, Nat.reduceAdd, Nat.reduceLT, Nat.reduceLeDiff, Nat.reduceEqDiff, Nat.reduceSub, Nat.reduceMul, Nat.reduceBEq, Nat.reduceBNe, Nat.reducePow, Nat.reduceDiv, Int.reduceLE, Int.reduceLT, Int.reduceToNat, Int.reduceNeg, Int.reduceAdd, Int.reduceSub, Int.reduceEq, reduceIte, reduceCtorEq, UInt8.reduceOfNat, sgN, hd1, hT, ev]
      repeat refine And.intro (by first | omega | assumption | (simp; done) | (simp; omega) | (simp +contextual; done) | (simp_all; done) | (simp_all; omega)) ?_
      with_reducible refine hK _ (WN.mk ?_)
      clear hK K
      repeat first | with_reducible refine WN.t ?_ | with_reducible refine WN.b ?_
      refine WA.regionK ty_ok hs fun K hK => ?_
      simp only [go_sem, Nat.reduceAdd, Nat.reduceLT, Nat.reduceLeDiff, Nat.reduceEqDiff, Nat.reduceSub, Nat.reduceMul, Nat.reduceBEq, Nat.reduceBNe, Nat.reducePow, Nat.reduceDiv, Int.reduceLE, Int.reduceLT, Int.reduceToNat, Int.reduceNeg, Int.reduceAdd, Int.reduceSub, Int.reduceEq, reduceIte, reduceCtorEq, UInt8.reduceOfNat, true_and]
      first
      | refine hK _ ?_
      | refine And.intro (by first | omega | (simp; done) | (simp; omega) | (simp +contextual; done) | (simp_all; done) | (simp_all; omega)) (hK _ ?_)
      clear hK K
      refine WA.retE ty_ok (xs := [.agg [.lit (.int .i64 c.cls), .lit (.int .i64 v), .lit (.int .i64 c.p1), .lit (.int .i64 c.p2), .by_ c.data, .lit (.int .i64 c.exp)]]) (ls' := [.li 2 [.agg [L, .lit (.int .i64 (nxZ L q))]]]) (rv := [.cell 4 24]) rfl hX (by simp) (fun _ => rfl) (fun _ _ h => ⟨(⟨c.cls, v, c.p1, c.p2, c.data, c.exp⟩, nxZ L q), ⟨.inl rfl, hd2⟩, h⟩) ?_
      simp only [go_sem, Nat.reduceAdd, Nat.reduceLT, Nat.reduceLeDiff, Nat.reduceEqDiff, Nat.reduceSub, Nat.reduceMul, Nat.reduceBEq, Nat.reduceBNe, Nat.reducePow, Nat.reduceDiv, Int.reduceLE, Int.reduceLT, Int.reduceToNat, Int.reduceNeg, Int.reduceAdd, Int.reduceSub, Int.reduceEq, reduceIte, reduceCtorEq, UInt8.reduceOfNat, hT]
    ·
      refine WA.regionK ty_ok hs fun K hK => ?_
      simp only [go_sem, Nat.reduceAdd, Nat.reduceLT, Nat.reduceLeDiff, Nat.reduceEqDiff, Nat.reduceSub, Nat.reduceMul, Nat.reduceBEq, Nat.reduceBNe, Nat.reducePow, Nat.reduceDiv, Int.reduceLE, Int.reduceLT, Int.reduceToNat, Int.reduceNeg, Int.reduceAdd, Int.reduceSub, Int.reduceEq, reduceIte, reduceCtorEq, UInt8.reduceOfNat, true_and]
      first
      | refine hK _ ?_
      | refine And.intro (by first | omega | (simp; done) | (simp; omega) | (simp +contextual; done) | (simp_all; done) | (simp_all; omega)) (hK _ ?_)
      clear hK K
      refine WA.cond rfl (fun h => ?_) (fun h => ?_)
      ·
        clear h
        obtain ⟨v, hv, ev⟩ := pickI [-1, 256] (nxI L q 2) (by have := nx_rng L q 2 (by omega); simpa using this)
        simp only [List.map_cons, List.map_nil, iA] at ev
        have hr5 := nx_rng L q 2 (by omega)
        refine WA.regionE ty_ok hs fun K hK => ?_
        simp only [go_sem, Nat.reduceAdd, Nat.reduceLT, Nat.reduceLeDiff, Nat.reduceEqDiff, Nat.reduceSub, Nat.reduceMul, Nat.reduceBEq, Nat.reduceBNe, Nat.reducePow, Nat.reduceDiv, Int.reduceLE, Int.reduceLT, Int.reduceToNat, Int.reduceNeg, Int.reduceAdd, Int.reduceSub, Int.reduceEq, reduceIte, reduceCtorEq, UInt8.reduceOfNat, sgN, hd1, hT, ev]
        repeat refine And.intro (by first | omega | assumption | (simp; done) | (simp; omega) | (simp +contextual; done) | (simp_all; done) | (simp_all; omega)) ?_
        with_reducible refine hK _ (WN.mk ?_)
        clear hK K
        repeat first | with_reducible refine WN.t ?_ | with_reducible refine WN.b ?_
        refine WA.regionK ty_ok hs fun K hK => ?_
        simp only [go_sem, Nat.reduceAdd, Nat.reduceLT, Nat.reduceLeDiff, Nat.reduceEqDiff, Nat.reduceSub, Nat.reduceMul, Nat.reduceBEq, Nat.reduceBNe, Nat.reducePow, Nat.reduceDiv, Int.reduceLE, Int.reduceLT, Int.reduceToNat, Int.reduceNeg, Int.reduceAdd, Int.reduceSub, Int.reduceEq, reduceIte, reduceCtorEq, UInt8.reduceOfNat, true_and]
        first
        | refine hK _ ?_
        | refine And.intro (by first | omega | (simp; done) | (simp; omega) | (simp +contextual; done) | (simp_all; done) | (simp_all; omega)) (hK _ ?_)
        clear hK K
        refine WA.retE ty_ok (xs := [.agg [.lit (.int .i64 c.cls), .lit (.int .i64 c.ins), .lit (.int .i64 v), .lit (.int .i64 c.p2), .by_ c.data, .lit (.int .i64 c.exp)]]) (ls' := [.li 2 [.agg [L, .lit (.int .i64 (nxZ L q))]]]) (rv := [.cell 4 24]) rfl hX (by simp) (fun _ => rfl) (fun _ _ h => ⟨(⟨c.cls, c.ins, v, c.p2, c.data, c.exp⟩, nxZ L q), ⟨.inl rfl, hd2⟩, h⟩) ?_
        simp only [go_sem, Nat.reduceAdd, Nat.reduceLT, Nat.reduceLeDiff, Nat.reduceEqDiff, Nat.reduceSub, Nat.reduceMul, Nat.reduceBEq, Nat.reduceBNe, Nat.reducePow, Nat.reduceDiv, Int.reduceLE, Int.reduceLT, Int.reduceToNat, Int.reduceNeg, Int.reduceAdd, Int.reduceSub, Int.reduceEq, reduceIte, reduceCtorEq, UInt8.reduceOfNat, hT]
      ·
        refine WA.regionK ty_ok hs fun K hK => ?_
        simp only [go_sem, Nat.reduceAdd, Nat.reduceLT, Nat.reduceLeDiff, Nat.reduceEqDiff, Nat.reduceSub, Nat.reduceMul, Nat.reduceBEq, Nat.reduceBNe, Nat.reducePow, Nat.reduceDiv, Int.reduceLE, Int.reduceLT, Int.reduceToNat, Int.reduceNeg, Int.reduceAdd, Int.reduceSub, Int.reduceEq, reduceIte, reduceCtorEq, UInt8.reduceOfNat, true_and]
        first
        | refine hK _ ?_
        | refine And.intro (by first | omega | (simp; done) | (simp; omega) | (simp +contextual; done) | (simp_all; done) | (simp_all; omega)) (hK _ ?_)
        clear hK K
        refine WA.cond rfl (fun h => ?_) (fun h => ?_)
        ·
          clear h
          obtain ⟨v, hv, ev⟩ := pickI [-1, 256] (nxI L q 2) (by have := nx_rng L q 2 (by omega); simpa using this)
          simp only [List.map_cons, List.map_nil, iA] at ev
          have hr5 := nx_rng L q 2 (by omega)
          refine WA.regionE ty_ok hs fun K hK => ?_
          simp only [go_sem, Nat.reduceAdd, Nat.reduceLT, Nat.reduceLeDiff, Nat.reduceEqDiff, Nat.reduceSub, Nat.reduceMul, Nat.reduceBEq, Nat.reduceBNe, Nat.reducePow, Nat.reduceDiv, Int.reduceLE, Int.reduceLT, Int.reduceToNat, Int.reduceNeg, Int.reduceAdd, Int.reduceSub, Int.reduceEq, reduceIte, reduceCtorEq, UInt8.reduceOfNat, sgN, hd1, hT, ev]
          repeat refine And.intro (by first | omega | assumption | (simp; done) | (simp; omega) | (simp +contextual; done) | (simp_all; done) | (simp_all; omega)) ?_
          with_reducible refine hK _ (WN.mk ?_)
          clear hK K
          repeat first | with_reducible refine WN.t ?_ | with_reducible refine WN.b ?_
          refine WA.regionK ty_ok hs fun K hK => ?_
          simp only [go_sem, Nat.reduceAdd, Nat.reduceLT, Nat.reduceLeDiff, Nat.reduceEqDiff, Nat.reduceSub, Nat.reduceMul, Nat.reduceBEq, Nat.reduceBNe, Nat.reducePow, Nat.reduceDiv, Int.reduceLE, Int.reduceLT, Int.reduceToNat, Int.reduceNeg, Int.reduceAdd, Int.reduceSub, Int.reduceEq, reduceIte, reduceCtorEq, UInt8.reduceOfNat, true_and]
          first
          | refine hK _ ?_
          | refine And.intro (by first | omega | (simp; done) | (simp; omega) | (simp +contextual; done) | (simp_all; done) | (simp_all; omega)) (hK _ ?_)
          clear hK K
          refine WA.retE ty_ok (xs := [.agg [.lit (.int .i64 c.cls), .lit (.int .i64 c.ins), .lit (.int .i64 c.p1), .lit (.int .i64 v), .by_ c.data, .lit (.int .i64 c.exp)]]) (ls' := [.li 2 [.agg [L, .lit (.int .i64 (nxZ L q))]]]) (rv := [.cell 4 24]) rfl hX (by simp) (fun _ => rfl) (fun _ _ h => ⟨(⟨c.cls, c.ins, c.p1, v, c.data, c.exp⟩, nxZ L q), ⟨.inl rfl, hd2⟩, h⟩) ?_
          simp only [go_sem, Nat.reduceAdd, Nat.reduceLT, Nat.reduceLeDiff, Nat.reduceEqDiff, Nat.reduceSub, Nat.reduceMul, Nat.reduceBEq, Nat.reduceBNe, Nat.reducePow, Nat.reduceDiv, Int.reduceLE, Int.reduceLT, Int.reduceToNat, Int.reduceNeg, Int.reduceAdd, Int.reduceSub, Int.reduceEq, reduceIte, reduceCtorEq, UInt8.reduceOfNat, hT]
        ·
          refine WA.regionK ty_ok hs fun K hK => ?_
          simp only [go_sem, Nat.reduceAdd, Nat.reduceLT, Nat.reduceLeDiff, Nat.reduceEqDiff, Nat.reduceSub, Nat.reduceMul, Nat.reduceBEq, Nat.reduceBNe, Nat.reducePow, Nat.reduceDiv, Int.reduceLE, Int.reduceLT, Int.reduceToNat, Int.reduceNeg, Int.reduceAdd, Int.reduceSub, Int.reduceEq, reduceIte, reduceCtorEq, UInt8.reduceOfNat, true_and]
          first
          | refine hK _ ?_
          | refine And.intro (by first | omega | (simp; done) | (simp; omega) | (simp +contextual; done) | (simp_all; done) | (simp_all; omega)) (hK _ ?_)
          clear hK K
          refine WA.cond rfl (fun h => ?_) (fun h => ?_)
          ·
            clear h
            obtain ⟨v, hv, ev⟩ := pickI [-2, 0, 65537] (nxI L q 3) (by have := nx_rng L q 3 (by omega); simpa using this)
            simp only [List.map_cons, List.map_nil, iA] at ev
            have hr5 := nx_rng L q 3 (by omega)
            refine WA.regionE ty_ok hs fun K hK => ?_
            simp only [go_sem, Nat.reduceAdd, Nat.reduceLT, Nat.reduceLeDiff, Nat.reduceEqDiff, Nat.reduceSub, Nat.reduceMul, Nat.reduceBEq, Nat.reduceBNe, Nat.reducePow, Nat.reduceDiv, Int.reduceLE, Int.reduceLT, Int.reduceToNat, Int.reduceNeg, Int.reduceAdd, Int.reduceSub, Int.reduceEq, reduceIte, reduceCtorEq, UInt8.reduceOfNat, sgN, hd1, hT, ev]
            repeat refine And.intro (by first | omega | assumption | (simp; done) | (simp; omega) | (simp +contextual; done) | (simp_all; done) | (simp_all; omega)) ?_
            with_reducible refine hK _ (WN.mk ?_)
            clear hK K
            repeat first | with_reducible refine WN.t ?_ | with_reducible refine WN.b ?_
            refine WA.regionK ty_ok hs fun K hK => ?_
            simp only [go_sem, Nat.reduceAdd, Nat.reduceLT, Nat.reduceLeDiff, Nat.reduceEqDiff, Nat.reduceSub, Nat.reduceMul, Nat.reduceBEq, Nat.reduceBNe, Nat.reducePow, Nat.reduceDiv, Int.reduceLE, Int.reduceLT, Int.reduceToNat, Int.reduceNeg, Int.reduceAdd, Int.reduceSub, Int.reduceEq, reduceIte, reduceCtorEq, UInt8.reduceOfNat, true_and]
            first
            | refine hK _ ?_
            | refine And.intro (by first | omega | (simp; done) | (simp; omega) | (simp +contextual; done) | (simp_all; done) | (simp_all; omega)) (hK _ ?_)
            clear hK K
            refine WA.retE ty_ok (xs := [.agg [.lit (.int .i64 c.cls), .lit (.int .i64 c.ins), .lit (.int .i64 c.p1), .lit (.int .i64 c.p2), .by_ c.data, .lit (.int .i64 v)]]) (ls' := [.li 2 [.agg [L, .lit (.int .i64 (nxZ L q))]]]) (rv := [.cell 4 24]) rfl hX (by simp) (fun _ => rfl) (fun _ _ h => ⟨(⟨c.cls, c.ins, c.p1, c.p2, c.data, v⟩, nxZ L q), ⟨.inl rfl, hd2⟩, h⟩) ?_
            simp only [go_sem, Nat.reduceAdd, Nat.reduceLT, Nat.reduceLeDiff, Nat.reduceEqDiff, Nat.reduceSub, Nat.reduceMul, Nat.reduceBEq, Nat.reduceBNe, Nat.reducePow, Nat.reduceDiv, Int.reduceLE, Int.reduceLT, Int.reduceToNat, Int.reduceNeg, Int.reduceAdd, Int.reduceSub, Int.reduceEq, reduceIte, reduceCtorEq, UInt8.reduceOfNat, hT]
          ·
            clear h
            have hr5 := nx_rng L q 45 (by omega)
            refine WA.regionE ty_ok hs fun K hK => ?_
            simp only [go_sem, Nat.reduceAdd, Nat.reduceLT, Nat.reduceLeDiff, Nat.reduceEqDiff, Nat.reduceSub, Nat.reduceMul, Nat.reduceBEq, Nat.reduceBNe, Nat.reducePow, Nat.reduceDiv, Int.reduceLE, Int.reduceLT, Int.reduceToNat, Int.reduceNeg, Int.reduceAdd, Int.reduceSub, Int.reduceEq, reduceIte, reduceCtorEq, UInt8.reduceOfNat, sgN, hd1, hT]
            repeat refine And.intro (by first | omega | assumption | (simp; done) | (simp; omega) | (simp +contextual; done) | (simp_all; done) | (simp_all; omega)) ?_
            with_reducible refine hK _ (WN.mk ?_)
            clear hK K
            repeat first | with_reducible refine WN.t ?_ | with_reducible refine WN.b ?_
            refine WA.regionK ty_ok hs fun K hK => ?_
            simp only [go_sem, Nat.reduceAdd, Nat.reduceLT, Nat.reduceLeDiff, Nat.reduceEqDiff, Nat.reduceSub, Nat.reduceMul, Nat.reduceBEq, Nat.reduceBNe, Nat.reducePow, Nat.reduceDiv, Int.reduceLE, Int.reduceLT, Int.reduceToNat, Int.reduceNeg, Int.reduceAdd, Int.reduceSub, Int.reduceEq, reduceIte, reduceCtorEq, UInt8.reduceOfNat, true_and]
            first
            | refine hK _ ?_
            | refine And.intro (by first | omega | (simp; done) | (simp; omega) | (simp +contextual; done) | (simp_all; done) | (simp_all; omega)) (hK _ ?_)
            clear hK K
            refine WA.retE ty_ok (xs := [.agg [.lit (.int .i64 c.cls), .lit (.int .i64 c.ins), .lit (.int .i64 c.p1), .lit (.int .i64 c.p2), .by_ ((List.replicate (4056 + nxI L q 45).toNat 0)), .lit (.int .i64 c.exp)]]) (ls' := [.li 2 [.agg [L, .lit (.int .i64 (nxZ L q))]]]) (rv := [.cell 4 24]) rfl hX (by simp) (fun _ => rfl) (fun _ _ h => ⟨(⟨c.cls, c.ins, c.p1, c.p2, (List.replicate (4056 + nxI L q 45).toNat 0), c.exp⟩, nxZ L q), ⟨.inr (by simp; omega), hd2⟩, h⟩) ?_
            simp only [go_sem, Nat.reduceAdd, Nat.reduceLT, Nat.reduceLeDiff, Nat.reduceEqDiff, Nat.reduceSub, Nat.reduceMul, Nat.reduceBEq, Nat.reduceBNe, Nat.reducePow, Nat.reduceDiv, Int.reduceLE, Int.reduceLT, Int.reduceToNat, Int.reduceNeg, Int.reduceAdd, Int.reduceSub, Int.reduceEq, reduceIte, reduceCtorEq, UInt8.reduceOfNat, hT]
end Go.Proofs.Yteodlgmcniikpaa
