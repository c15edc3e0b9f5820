import Derived.Test.YteodlgmcniikpaaCnR
import Derived.Test.YteodlgmcniikpaaCnS
namespace Go.Proofs.Yteodlgmcniikpaa
open Go.RowKit Go.TravelBase Go.TravelAbs
set_option linter.unusedVariables false
set_option linter.unusedSimpArgs false

















/-! ### The law CommandChains -/
def sgT : Sg := fun f args ls =>
  match f, args, ls with
  | 30, [.agg [.lit (.int .i64 a), .lit (.int .i64 b), .lit (.int .i64 c), .lit (.int .i64 d), .by_ e, .lit (.int .i64 x)], .lit (.int .i64 n)], [] => some (.tup [.li 6 ((chV ⟨a, b, c, d, e, x⟩ n).map cmA), .lit (.int .i64 (chE ⟨a, b, c, d, e, x⟩ n))], [], True)
  | 31, [.agg [.lit (.int .i64 a), .lit (.int .i64 b), .lit (.int .i64 c), .lit (.int .i64 d), .by_ e, .lit (.int .i64 x)], .lit (.int .i64 n)], [] => some (.tup [.li 6 ((chV ⟨a, b, c, d, e, x⟩ n).map cmA), .lit (.int .i64 (chE ⟨a, b, c, d, e, x⟩ n))], [], n ≤ 9223372036854775807)
  | 32, [.agg [.lit (.int .i64 a), .lit (.int .i64 b), .lit (.int .i64 c), .lit (.int .i64 d), .by_ e, .lit (.int .i64 x)], .agg [.lit (.int .i64 a2), .lit (.int .i64 b2), .lit (.int .i64 c2), .lit (.int .i64 d2), .by_ e2, .lit (.int .i64 x2)]], [] => some (.tup [.agg [.lit (.int .i64 (jnV ⟨a, b, c, d, e, x⟩ ⟨a2, b2, c2, d2, e2, x2⟩).cls), .lit (.int .i64 (jnV ⟨a, b, c, d, e, x⟩ ⟨a2, b2, c2, d2, e2, x2⟩).ins), .lit (.int .i64 (jnV ⟨a, b, c, d, e, x⟩ ⟨a2, b2, c2, d2, e2, x2⟩).p1), .lit (.int .i64 (jnV ⟨a, b, c, d, e, x⟩ ⟨a2, b2, c2, d2, e2, x2⟩).p2), .by_ (jnV ⟨a, b, c, d, e, x⟩ ⟨a2, b2, c2, d2, e2, x2⟩).data, .lit (.int .i64 (jnV ⟨a, b, c, d, e, x⟩ ⟨a2, b2, c2, d2, e2, x2⟩).exp)], .lit (.bool (jnO ⟨a, b, c, d, e, x⟩ ⟨a2, b2, c2, d2, e2, x2⟩)), .lit (.int .i64 (jnE ⟨a, b, c, d, e, x⟩ ⟨a2, b2, c2, d2, e2, x2⟩))], [], True)
  | 33, [.agg [.lit (.int .i64 a), .lit (.int .i64 b), .lit (.int .i64 c), .lit (.int .i64 d), .by_ e, .lit (.int .i64 x)], .agg [.lit (.int .i64 a2), .lit (.int .i64 b2), .lit (.int .i64 c2), .lit (.int .i64 d2), .by_ e2, .lit (.int .i64 x2)]], [] => some (.tup [.agg [.lit (.int .i64 (jnV ⟨a, b, c, d, e, x⟩ ⟨a2, b2, c2, d2, e2, x2⟩).cls), .lit (.int .i64 (jnV ⟨a, b, c, d, e, x⟩ ⟨a2, b2, c2, d2, e2, x2⟩).ins), .lit (.int .i64 (jnV ⟨a, b, c, d, e, x⟩ ⟨a2, b2, c2, d2, e2, x2⟩).p1), .lit (.int .i64 (jnV ⟨a, b, c, d, e, x⟩ ⟨a2, b2, c2, d2, e2, x2⟩).p2), .by_ (jnV ⟨a, b, c, d, e, x⟩ ⟨a2, b2, c2, d2, e2, x2⟩).data, .lit (.int .i64 (jnV ⟨a, b, c, d, e, x⟩ ⟨a2, b2, c2, d2, e2, x2⟩).exp)], .lit (.bool (jnO ⟨a, b, c, d, e, x⟩ ⟨a2, b2, c2, d2, e2, x2⟩)), .lit (.int .i64 (jnE ⟨a, b, c, d, e, x⟩ ⟨a2, b2, c2, d2, e2, x2⟩))], [], True)
  | 13, [], [] => some (.lit (.bool true), [], True)
  | 17, [.agg [.lit (.int .i64 a), .lit (.int .i64 b), .lit (.int .i64 c), .lit (.int .i64 d), .by_ e, .lit (.int .i64 x)], .agg [.lit (.int .i64 a2), .lit (.int .i64 b2), .lit (.int .i64 c2), .lit (.int .i64 d2), .by_ e2, .lit (.int .i64 x2)]], [] => some (.lit (.bool (samC ⟨a, b, c, d, e, x⟩ ⟨a2, b2, c2, d2, e2, x2⟩)), [], True)
  | _, _, _ => none
theorem sgT_ok : SgOK Try.prog sgT := by
  intro f args ls r ls' vc h hvc
  unfold sgT at h
  split at h <;> first | (simp only [Option.some.injEq, Prod.mk.injEq] at h; obtain ⟨rfl, rfl, rfl⟩ := h) | cases h
  · rename_i a b c d e x n
    exact ⟨(fnOK Try.func30 (by decide) rfl), chain_s ⟨a, b, c, d, e, x⟩ n⟩
  · rename_i a b c d e x n
    exact ⟨(fnOK Try.func31 (by decide) rfl), rchain_s ⟨a, b, c, d, e, x⟩ n hvc⟩
  · rename_i a b c d e x a2 b2 c2 d2 e2 x2
    exact ⟨(fnOK Try.func32 (by decide) rfl), join_s ⟨a, b, c, d, e, x⟩ ⟨a2, b2, c2, d2, e2, x2⟩⟩
  · rename_i a b c d e x a2 b2 c2 d2 e2 x2
    exact ⟨(fnOK Try.func33 (by decide) rfl), rjoin_s ⟨a, b, c, d, e, x⟩ ⟨a2, b2, c2, d2, e2, x2⟩⟩
  · exact ⟨(fnOK Try.func13 (by decide) rfl), awake_s⟩
  · rename_i a b c d e x a2 b2 c2 d2 e2 x2
    exact ⟨(fnOK Try.func17 (by decide) rfl), same_s ⟨a, b, c, d, e, x⟩ ⟨a2, b2, c2, d2, e2, x2⟩⟩
theorem chV_len (c : Cm) (size : Int) : (chV c size).length ≤ 4097 := by
  unfold chV
  split
  · rename_i h
    unfold chE at h
    split at h
    · cases h
    rename_i hv
    split at h
    · cases h
    rename_i hz
    rw [chP_len]
    have hp := ps2_len c size (by omega)
    have v : ValC c := Decidable.not_not.1 fun q => hv (.inl q)
    have := v.2.2.1
    omega
  · simp
def cm2A (u : Cm × Cm) : AV := .agg [.lit (.int .i64 u.1.cls), .lit (.int .i64 u.1.ins), .lit (.int .i64 u.1.p1), .lit (.int .i64 u.1.p2), .by_ u.1.data, .lit (.int .i64 u.1.exp), .lit (.int .i64 u.2.cls), .lit (.int .i64 u.2.ins), .lit (.int .i64 u.2.p1), .lit (.int .i64 u.2.p2), .by_ u.2.data, .lit (.int .i64 u.2.exp)]
set_option maxHeartbeats 4000000 in
theorem chains_s (l : List Int) (hl : ∀ y ∈ l, -9223372036854775808 ≤ y ∧ y ≤ 9223372036854775807) (size : Int) (hz : size ≤ 9223372036854775807) (u : Cm × Cm) : FnS Try.prog 7 [.li 1 (l.map iA), .lit (.int .i64 size), cm2A u] [] (.lit (.bool true)) [] := by
  have hs := sgL_ok
  have ht := stC_ok
  have hT := Tr_ia l
  obtain ⟨a, b⟩ := u
  unfold cm2A
  dsimp only
  refine FnS.of Try.func7 rfl (N := 166) rfl (by simp) (by simp) fun X hX => ?_
  simp only [tmArgs, lentH, Nat.reduceAdd]
  refine WA.regionK ty_ok hs fun K hK => ?_
  simp only [go_sem, Nat.reduceAdd, Nat.reduceLT, Nat.reduceLeDiff, Nat.reduceEqDiff, Nat.reduceSub, Nat.reduceMul, Nat.reduceBEq, Nat.reduceBNe, Nat.reducePow, Nat.reduceDiv, Int.reduceLE, Int.reduceLT, Int.reduceToNat, Int.reduceNeg, Int.reduceAdd, Int.reduceSub, Int.reduceEq, reduceIte, reduceCtorEq, UInt8.reduceOfNat, true_and]
  first
  | refine hK _ ?_
  | refine And.intro (by first | omega | (simp; done) | (simp; omega) | (simp +contextual; done) | (simp_all; done) | (simp_all; omega)) (hK _ ?_)
  clear hK K
  refine WA.drawnH mixed_ ty_ok hs (tbl := [[], [0], [], [2], [], [], [0, 1, 4, 5], [0, 1, 2, 3, 4, 5, 6]]) (nb := [1, 3, 6, 7]) (hk := [[], [], [], [2048], [], [], [], []]) (by kernel_rfl) fun K hK => ?_
  simp only [go_sem, Nat.reduceAdd, Nat.reduceLT, Nat.reduceLeDiff, Nat.reduceEqDiff, Nat.reduceSub, Nat.reduceMul, Nat.reduceBEq, Nat.reduceBNe, Nat.reducePow, Nat.reduceDiv, Int.reduceLE, Int.reduceLT, Int.reduceToNat, Int.reduceNeg, Int.reduceAdd, Int.reduceSub, Int.reduceEq, reduceIte, reduceCtorEq, UInt8.reduceOfNat, true_and]
  first
  | refine hK _ ?_
  | refine And.intro (by first | omega | (simp; done) | (simp; omega) | (simp +contextual; done) | (simp_all; done) | (simp_all; omega)) (hK _ ?_)
  clear hK K
  refine WA.seq ?_
  refine WA.regionK ty_ok hs fun K hK => ?_
  simp only [go_sem, Nat.reduceAdd, Nat.reduceLT, Nat.reduceLeDiff, Nat.reduceEqDiff, Nat.reduceSub, Nat.reduceMul, Nat.reduceBEq, Nat.reduceBNe, Nat.reducePow, Nat.reduceDiv, Int.reduceLE, Int.reduceLT, Int.reduceToNat, Int.reduceNeg, Int.reduceAdd, Int.reduceSub, Int.reduceEq, reduceIte, reduceCtorEq, UInt8.reduceOfNat, sgL]
  first
  | refine hK _ ?_
  | refine And.intro (by first | omega | (simp; done) | (simp; omega) | (simp +contextual; done) | (simp_all; done) | (simp_all; omega)) (hK _ ?_)
  clear hK K
  refine WA.cond rfl (fun h => ?_) (fun h => ?_)
  ·
    refine WA.regionK ty_ok hs fun K hK => ?_
    simp only [go_sem, Nat.reduceAdd, Nat.reduceLT, Nat.reduceLeDiff, Nat.reduceEqDiff, Nat.reduceSub, Nat.reduceMul, Nat.reduceBEq, Nat.reduceBNe, Nat.reducePow, Nat.reduceDiv, Int.reduceLE, Int.reduceLT, Int.reduceToNat, Int.reduceNeg, Int.reduceAdd, Int.reduceSub, Int.reduceEq, reduceIte, reduceCtorEq, UInt8.reduceOfNat, sgL]
    first
    | refine hK _ ?_
    | refine And.intro (by first | omega | (simp; done) | (simp; omega) | (simp +contextual; done) | (simp_all; done) | (simp_all; omega)) (hK _ ?_)
    clear hK K
    refine WA.retE ty_ok (xs := [.lit (.bool true)]) (ls' := []) (rv := [.tmp 6]) rfl hX (by decide) (fun _ => rfl) (fun _ _ h => h) ?_
    simp only [go_sem, Nat.reduceAdd, Nat.reduceLT, Nat.reduceLeDiff, Nat.reduceEqDiff, Nat.reduceSub, Nat.reduceMul, Nat.reduceBEq, Nat.reduceBNe, Nat.reducePow, Nat.reduceDiv, Int.reduceLE, Int.reduceLT, Int.reduceToNat, Int.reduceNeg, Int.reduceAdd, Int.reduceSub, Int.reduceEq, reduceIte, reduceCtorEq, UInt8.reduceOfNat, sbT]
  ·
    with_reducible refine WA.skipN ?_
    repeat first | with_reducible refine WN.t ?_ | with_reducible refine WN.b ?_
    have h6 : l.length ≤ 400 := by simp at h; omega
    have hd := dc_roll hl h6
    clear h
    refine WA.regionK ty_ok hs fun K hK => ?_
    simp only [go_sem, Nat.reduceAdd, Nat.reduceLT, Nat.reduceLeDiff, Nat.reduceEqDiff, Nat.reduceSub, Nat.reduceMul, Nat.reduceBEq, Nat.reduceBNe, Nat.reducePow, Nat.reduceDiv, Int.reduceLE, Int.reduceLT, Int.reduceToNat, Int.reduceNeg, Int.reduceAdd, Int.reduceSub, Int.reduceEq, reduceIte, reduceCtorEq, UInt8.reduceOfNat, sgL, hT]
    first
    | refine hK _ ?_
    | refine And.intro (by first | omega | (simp; done) | (simp; omega) | (simp +contextual; done) | (simp_all; done) | (simp_all; omega)) (hK _ ?_)
    clear hK K
    obtain ⟨L, hL⟩ : ∃ L, AV.li 1 (l.map iA) = L := ⟨_, rfl⟩
    rw [hL] at hd hT ⊢
    refine WA.regQ ty_ok hs ht fun K hK => ?_
    simp only [go_sem, Nat.reduceAdd, Nat.reduceLT, Nat.reduceLeDiff, Nat.reduceEqDiff, Nat.reduceSub, Nat.reduceMul, Nat.reduceBEq, Nat.reduceBNe, Nat.reducePow, Nat.reduceDiv, Int.reduceLE, Int.reduceLT, Int.reduceToNat, Int.reduceNeg, Int.reduceAdd, Int.reduceSub, Int.reduceEq, reduceIte, reduceCtorEq, UInt8.reduceOfNat, stC, hd, hT]
    repeat refine And.intro (by first | omega | assumption | (simp; done) | (simp; omega) | (simp +contextual; done) | (simp_all; done) | (simp_all; omega)) ?_
    rintro ⟨c, z1⟩ ⟨hm, hd1⟩
    try dsimp only at hm hd1
    try dsimp only
    refine And.intro hd1 ?_
    repeat refine And.intro (by first | omega | assumption | (simp; done) | (simp; omega) | (simp +contextual; done) | (simp_all; done) | (simp_all; omega)) ?_
    rintro ⟨k, z2⟩ ⟨hm2, hd2⟩
    try dsimp only at hm2 hd2
    try dsimp only
    repeat refine And.intro (by first | omega | assumption | (simp; done) | (simp; omega) | (simp +contextual; done) | (simp_all; done) | (simp_all; omega)) ?_
    refine hK _ ?_
    clear hK K
    have hc := hm.1.2.1
    have hcd := hm.1.2.2.1
    have hd3 := dc_nx hd2
    have hs := sgN_ok
    refine WA.join (fun (i : Cm × Int) => ⟨[ (1, .lit (.int .i64 size)), (7, .ptr 2048 0 0), (8, .ptr 2056 0 0), (9, .ptr 2112 0 0), (10, .ptr 2160 0 0), (11, .ptr 2168 0 0)], [(2048, ⟨.li 6 [.agg [.lit (.int .i64 a.cls), .lit (.int .i64 a.ins), .lit (.int .i64 a.p1), .lit (.int .i64 a.p2), .by_ a.data, .lit (.int .i64 a.exp)]], 0, false⟩), (2056, ⟨.li 6 [.agg [.lit (.int .i64 b.cls), .lit (.int .i64 b.ins), .lit (.int .i64 b.p1), .lit (.int .i64 b.p2), .by_ b.data, .lit (.int .i64 b.exp)]], 0, false⟩), (2160, ⟨.li 6 [.agg [.lit (.int .i64 c.cls), .lit (.int .i64 c.ins), .lit (.int .i64 c.p1), .lit (.int .i64 c.p2), .by_ c.data, .lit (.int .i64 c.exp)]], 0, false⟩), (2168, ⟨.li 6 [.agg [.lit (.int .i64 i.1.cls), .lit (.int .i64 i.1.ins), .lit (.int .i64 i.1.p1), .lit (.int .i64 i.1.p2), .by_ i.1.data, .lit (.int .i64 i.1.exp)]], 0, false⟩), (2112, ⟨.li 2 [.agg [L, .lit (.int .i64 i.2)]], 0, false⟩)], 3000, 166⟩) (fun i => DcOK L i.2) ?_ ?_
    ·
      refine WA.regionK ty_ok hs fun K hK => ?_
      simp only [go_sem, Nat.reduceAdd, Nat.reduceLT, Nat.reduceLeDiff, Nat.reduceEqDiff, Nat.reduceSub, Nat.reduceMul, Nat.reduceBEq, Nat.reduceBNe, Nat.reducePow, Nat.reduceDiv, Int.reduceLE, Int.reduceLT, Int.reduceToNat, Int.reduceNeg, Int.reduceAdd, Int.reduceSub, Int.reduceEq, reduceIte, reduceCtorEq, UInt8.reduceOfNat, sgN, hd2, hT]
      first
      | refine hK _ ?_
      | refine And.intro (by first | omega | (simp; done) | (simp; omega) | (simp +contextual; done) | (simp_all; done) | (simp_all; omega)) (hK _ ?_)
      clear hK K
      refine WA.cond rfl (fun h => ?_) (fun h => ?_)
      ·
        refine WA.drawn2 mixed_ ty_ok hs (tbl := [[], [0], [], [2], [], [4], [], [6], [0, 1], [0, 1, 8], [0, 1, 2, 3, 8, 9], [0, 1, 2, 3, 8, 9, 10], [0, 1, 2, 3, 4, 5, 8, 9, 10, 11], [0, 1, 2, 3, 4, 5, 8, 9, 10, 11, 12], [0, 1, 2, 3, 4, 5, 6, 7, 8, 9, 10, 11, 12, 13], [0, 1, 2, 3, 4, 5, 6, 7, 8, 9, 10, 11, 12, 13, 14]]) (nb := [1, 3, 5, 7, 9, 11, 13, 15]) (hk := [[], [], [], [2168], [], [2168], [], [2168], [], [], [], [], [], [], [], []]) (by kernel_rfl) fun K hK => ?_
        simp only [go_sem, Nat.reduceAdd, Nat.reduceLT, Nat.reduceLeDiff, Nat.reduceEqDiff, Nat.reduceSub, Nat.reduceMul, Nat.reduceBEq, Nat.reduceBNe, Nat.reducePow, Nat.reduceDiv, Int.reduceLE, Int.reduceLT, Int.reduceToNat, Int.reduceNeg, Int.reduceAdd, Int.reduceSub, Int.reduceEq, reduceIte, reduceCtorEq, UInt8.reduceOfNat, true_and]
        repeat refine And.intro (by first | omega | assumption | (simp; done) | (simp; omega) | (simp +contextual; done) | (simp_all; done) | (simp_all; omega)) ?_
        refine hK _ (WN.mk ?_)
        repeat with_reducible refine WN.b ?_
        refine WN.join hX (fun k => k) ((⟨c.cls, c.ins, c.p1, c.p2, k.data, k.exp⟩, nxZ L z2)) (hd3) (by simp only [go_sem, Int.natCast_add, Nat.reduceAdd, Nat.reduceLT, Nat.reduceLeDiff, Nat.reduceEqDiff, Nat.reduceSub, Nat.reduceMul, Nat.reduceBEq, Nat.reduceBNe, Nat.reducePow, Nat.reduceDiv, Int.reduceLE, Int.reduceLT, Int.reduceToNat, Int.reduceNeg, Int.reduceAdd, Int.reduceSub, Int.reduceEq, reduceIte, reduceCtorEq, UInt8.reduceOfNat, hT] <;> (try and_intros) <;> (try omega))
      ·
        refine WA.skipN ?_
        repeat with_reducible refine WN.b ?_
        refine WN.join hX (fun k => k) ((k, nxZ L z2)) (hd3) (by simp only [go_sem, Int.natCast_add, Nat.reduceAdd, Nat.reduceLT, Nat.reduceLeDiff, Nat.reduceEqDiff, Nat.reduceSub, Nat.reduceMul, Nat.reduceBEq, Nat.reduceBNe, Nat.reducePow, Nat.reduceDiv, Int.reduceLE, Int.reduceLT, Int.reduceToNat, Int.reduceNeg, Int.reduceAdd, Int.reduceSub, Int.reduceEq, reduceIte, reduceCtorEq, UInt8.reduceOfNat, hT] <;> (try and_intros) <;> (try omega))
    rintro ⟨k, z2⟩ hd2
    simp only at hd2
    have hd3 := dc_nx hd2
    refine WA.join (fun (i : Cm × Int) => ⟨[ (1, .lit (.int .i64 size)), (7, .ptr 2048 0 0), (8, .ptr 2056 0 0), (9, .ptr 2112 0 0), (10, .ptr 2160 0 0), (11, .ptr 2168 0 0)], [(2048, ⟨.li 6 [.agg [.lit (.int .i64 a.cls), .lit (.int .i64 a.ins), .lit (.int .i64 a.p1), .lit (.int .i64 a.p2), .by_ a.data, .lit (.int .i64 a.exp)]], 0, false⟩), (2056, ⟨.li 6 [.agg [.lit (.int .i64 b.cls), .lit (.int .i64 b.ins), .lit (.int .i64 b.p1), .lit (.int .i64 b.p2), .by_ b.data, .lit (.int .i64 b.exp)]], 0, false⟩), (2160, ⟨.li 6 [.agg [.lit (.int .i64 i.1.cls), .lit (.int .i64 i.1.ins), .lit (.int .i64 i.1.p1), .lit (.int .i64 i.1.p2), .by_ i.1.data, .lit (.int .i64 i.1.exp)]], 0, false⟩), (2168, ⟨.li 6 [.agg [.lit (.int .i64 k.cls), .lit (.int .i64 k.ins), .lit (.int .i64 k.p1), .lit (.int .i64 k.p2), .by_ k.data, .lit (.int .i64 k.exp)]], 0, false⟩), (2112, ⟨.li 2 [.agg [L, .lit (.int .i64 i.2)]], 0, false⟩)], 3500, 166⟩) (fun i => DcOK L i.2) ?_ ?_
    ·
      refine WA.regionK ty_ok hs fun K hK => ?_
      simp only [go_sem, Nat.reduceAdd, Nat.reduceLT, Nat.reduceLeDiff, Nat.reduceEqDiff, Nat.reduceSub, Nat.reduceMul, Nat.reduceBEq, Nat.reduceBNe, Nat.reducePow, Nat.reduceDiv, Int.reduceLE, Int.reduceLT, Int.reduceToNat, Int.reduceNeg, Int.reduceAdd, Int.reduceSub, Int.reduceEq, reduceIte, reduceCtorEq, UInt8.reduceOfNat, sgN, hd2, hT]
      first
      | refine hK _ ?_
      | refine And.intro (by first | omega | (simp; done) | (simp; omega) | (simp +contextual; done) | (simp_all; done) | (simp_all; omega)) (hK _ ?_)
      clear hK K
      refine WA.cond rfl (fun h => ?_) (fun h => ?_)
      ·
        refine WA.regionE ty_ok hs fun K hK => ?_
        simp only [go_sem, Nat.reduceAdd, Nat.reduceLT, Nat.reduceLeDiff, Nat.reduceEqDiff, Nat.reduceSub, Nat.reduceMul, Nat.reduceBEq, Nat.reduceBNe, Nat.reducePow, Nat.reduceDiv, Int.reduceLE, Int.reduceLT, Int.reduceToNat, Int.reduceNeg, Int.reduceAdd, Int.reduceSub, Int.reduceEq, reduceIte, reduceCtorEq, UInt8.reduceOfNat, true_and]
        repeat refine And.intro (by first | omega | assumption | (simp; done) | (simp; omega) | (simp +contextual; done) | (simp_all; done) | (simp_all; omega)) ?_
        refine hK _ (WN.mk ?_)
        repeat with_reducible refine WN.b ?_
        refine WN.join hX (fun k => k) ((⟨c.cls + 16, c.ins, c.p1, c.p2, c.data, c.exp⟩, nxZ L z2)) (hd3) (by simp only [go_sem, Int.natCast_add, Nat.reduceAdd, Nat.reduceLT, Nat.reduceLeDiff, Nat.reduceEqDiff, Nat.reduceSub, Nat.reduceMul, Nat.reduceBEq, Nat.reduceBNe, Nat.reducePow, Nat.reduceDiv, Int.reduceLE, Int.reduceLT, Int.reduceToNat, Int.reduceNeg, Int.reduceAdd, Int.reduceSub, Int.reduceEq, reduceIte, reduceCtorEq, UInt8.reduceOfNat, hT] <;> (try and_intros) <;> (try omega))
      ·
        refine WA.skipN ?_
        repeat with_reducible refine WN.b ?_
        refine WN.join hX (fun k => k) ((c, nxZ L z2)) (hd3) (by simp only [go_sem, Int.natCast_add, Nat.reduceAdd, Nat.reduceLT, Nat.reduceLeDiff, Nat.reduceEqDiff, Nat.reduceSub, Nat.reduceMul, Nat.reduceBEq, Nat.reduceBNe, Nat.reducePow, Nat.reduceDiv, Int.reduceLE, Int.reduceLT, Int.reduceToNat, Int.reduceNeg, Int.reduceAdd, Int.reduceSub, Int.reduceEq, reduceIte, reduceCtorEq, UInt8.reduceOfNat, hT] <;> (try and_intros) <;> (try omega))
    rintro ⟨c, z3⟩ hd3
    simp only at hd3
    have hd4 := dc_nx hd3
    refine WA.join (fun (i : Cm × Int) => ⟨[ (1, .lit (.int .i64 size)), (7, .ptr 2048 0 0), (8, .ptr 2056 0 0), (9, .ptr 2112 0 0), (10, .ptr 2160 0 0), (11, .ptr 2168 0 0)], [(2048, ⟨.li 6 [.agg [.lit (.int .i64 a.cls), .lit (.int .i64 a.ins), .lit (.int .i64 a.p1), .lit (.int .i64 a.p2), .by_ a.data, .lit (.int .i64 a.exp)]], 0, false⟩), (2056, ⟨.li 6 [.agg [.lit (.int .i64 b.cls), .lit (.int .i64 b.ins), .lit (.int .i64 b.p1), .lit (.int .i64 b.p2), .by_ b.data, .lit (.int .i64 b.exp)]], 0, false⟩), (2160, ⟨.li 6 [.agg [.lit (.int .i64 i.1.cls), .lit (.int .i64 i.1.ins), .lit (.int .i64 i.1.p1), .lit (.int .i64 i.1.p2), .by_ i.1.data, .lit (.int .i64 i.1.exp)]], 0, false⟩), (2168, ⟨.li 6 [.agg [.lit (.int .i64 k.cls), .lit (.int .i64 k.ins), .lit (.int .i64 k.p1), .lit (.int .i64 k.p2), .by_ k.data, .lit (.int .i64 k.exp)]], 0, false⟩), (2112, ⟨.li 2 [.agg [L, .lit (.int .i64 i.2)]], 0, false⟩)], 4000, 166⟩) (fun i => DcOK L i.2) ?_ ?_
    ·
      refine WA.regionK ty_ok hs fun K hK => ?_
      simp only [go_sem, Nat.reduceAdd, Nat.reduceLT, Nat.reduceLeDiff, Nat.reduceEqDiff, Nat.reduceSub, Nat.reduceMul, Nat.reduceBEq, Nat.reduceBNe, Nat.reducePow, Nat.reduceDiv, Int.reduceLE, Int.reduceLT, Int.reduceToNat, Int.reduceNeg, Int.reduceAdd, Int.reduceSub, Int.reduceEq, reduceIte, reduceCtorEq, UInt8.reduceOfNat, sgN, hd3, hT]
      first
      | refine hK _ ?_
      | refine And.intro (by first | omega | (simp; done) | (simp; omega) | (simp +contextual; done) | (simp_all; done) | (simp_all; omega)) (hK _ ?_)
      clear hK K
      refine WA.cond rfl (fun h => ?_) (fun h => ?_)
      ·
        refine WA.regQE ty_ok hs ht fun K hK => ?_
        simp only [go_sem, Nat.reduceAdd, Nat.reduceLT, Nat.reduceLeDiff, Nat.reduceEqDiff, Nat.reduceSub, Nat.reduceMul, Nat.reduceBEq, Nat.reduceBNe, Nat.reducePow, Nat.reduceDiv, Int.reduceLE, Int.reduceLT, Int.reduceToNat, Int.reduceNeg, Int.reduceAdd, Int.reduceSub, Int.reduceEq, reduceIte, reduceCtorEq, UInt8.reduceOfNat, stC, hd4, hT]
        repeat refine And.intro (by first | omega | assumption | (simp; done) | (simp; omega) | (simp +contextual; done) | (simp_all; done) | (simp_all; omega)) ?_
        rintro ⟨c2, z4⟩ ⟨hc2, hd5⟩
        try dsimp only at hc2 hd5
        try dsimp only
        repeat refine And.intro (by first | omega | assumption | (simp; done) | (simp; omega) | (simp +contextual; done) | (simp_all; done) | (simp_all; omega)) ?_
        refine hK _ (WN.mk ?_)
        repeat with_reducible refine WN.b ?_
        refine WN.join hX (fun k => k) ((c2, z4)) (hd5) (by simp only [go_sem, Int.natCast_add, Nat.reduceAdd, Nat.reduceLT, Nat.reduceLeDiff, Nat.reduceEqDiff, Nat.reduceSub, Nat.reduceMul, Nat.reduceBEq, Nat.reduceBNe, Nat.reducePow, Nat.reduceDiv, Int.reduceLE, Int.reduceLT, Int.reduceToNat, Int.reduceNeg, Int.reduceAdd, Int.reduceSub, Int.reduceEq, reduceIte, reduceCtorEq, UInt8.reduceOfNat, hT] <;> (try and_intros) <;> (try omega))
      ·
        refine WA.skipN ?_
        repeat with_reducible refine WN.b ?_
        refine WN.join hX (fun k => k) ((c, nxZ L z3)) (hd4) (by simp only [go_sem, Int.natCast_add, Nat.reduceAdd, Nat.reduceLT, Nat.reduceLeDiff, Nat.reduceEqDiff, Nat.reduceSub, Nat.reduceMul, Nat.reduceBEq, Nat.reduceBNe, Nat.reducePow, Nat.reduceDiv, Int.reduceLE, Int.reduceLT, Int.reduceToNat, Int.reduceNeg, Int.reduceAdd, Int.reduceSub, Int.reduceEq, reduceIte, reduceCtorEq, UInt8.reduceOfNat, hT] <;> (try and_intros) <;> (try omega))
    rintro ⟨c, z4⟩ hd5
    simp only at hd5
    have hs := sgT_ok
    have hC : (⟨c.cls, c.ins, c.p1, c.p2, c.data, c.exp⟩ : Cm) = c := rfl
    have hK' : (⟨k.cls, k.ins, k.p1, k.p2, k.data, k.exp⟩ : Cm) = k := rfl
    have hA : (⟨a.cls, a.ins, a.p1, a.p2, a.data, a.exp⟩ : Cm) = a := rfl
    have hB : (⟨b.cls, b.ins, b.p1, b.p2, b.data, b.exp⟩ : Cm) = b := rfl
    refine WA.regionK ty_ok hs fun K hK => ?_
    simp only [go_sem, Nat.reduceAdd, Nat.reduceLT, Nat.reduceLeDiff, Nat.reduceEqDiff, Nat.reduceSub, Nat.reduceMul, Nat.reduceBEq, Nat.reduceBNe, Nat.reducePow, Nat.reduceDiv, Int.reduceLE, Int.reduceLT, Int.reduceToNat, Int.reduceNeg, Int.reduceAdd, Int.reduceSub, Int.reduceEq, reduceIte, reduceCtorEq, UInt8.reduceOfNat, sgT, hC, Tr_cms]
    first
    | refine hK _ ?_
    | refine And.intro (by first | omega | (simp; done) | (simp; omega) | (simp +contextual; done) | (simp_all; done) | (simp_all; omega)) (hK _ ?_)
    clear hK K
    refine WA.regionK ty_ok hs fun K hK => ?_
    simp only [go_sem, Nat.reduceAdd, Nat.reduceLT, Nat.reduceLeDiff, Nat.reduceEqDiff, Nat.reduceSub, Nat.reduceMul, Nat.reduceBEq, Nat.reduceBNe, Nat.reducePow, Nat.reduceDiv, Int.reduceLE, Int.reduceLT, Int.reduceToNat, Int.reduceNeg, Int.reduceAdd, Int.reduceSub, Int.reduceEq, reduceIte, reduceCtorEq, UInt8.reduceOfNat, sgT, hC, hz, Tr_cms]
    first
    | refine hK _ ?_
    | refine And.intro (by first | omega | (simp; done) | (simp; omega) | (simp +contextual; done) | (simp_all; done) | (simp_all; omega)) (hK _ ?_)
    clear hK K
    obtain ⟨x, hx⟩ : ∃ x, chV c size = x := ⟨_, rfl⟩
    have hxl : x.length ≤ 4097 := by rw [← hx]; exact chV_len c size
    rw [hx]
    refine WA.seq ?_
    refine WA.regionK ty_ok hs fun K hK => ?_
    simp only [go_sem, Nat.reduceAdd, Nat.reduceLT, Nat.reduceLeDiff, Nat.reduceEqDiff, Nat.reduceSub, Nat.reduceMul, Nat.reduceBEq, Nat.reduceBNe, Nat.reducePow, Nat.reduceDiv, Int.reduceLE, Int.reduceLT, Int.reduceToNat, Int.reduceNeg, Int.reduceAdd, Int.reduceSub, Int.reduceEq, reduceIte, reduceCtorEq, UInt8.reduceOfNat, sgT]
    first
    | refine hK _ ?_
    | refine And.intro (by first | omega | (simp; done) | (simp; omega) | (simp +contextual; done) | (simp_all; done) | (simp_all; omega)) (hK _ ?_)
    clear hK K
    refine WA.cond rfl (fun h => ?_) (fun h => ?_)
    · simp at h
    ·
      with_reducible refine WA.skipN ?_
      repeat first | with_reducible refine WN.t ?_ | with_reducible refine WN.b ?_
      refine WA.seq ?_
      refine WA.regionK ty_ok hs fun K hK => ?_
      simp only [go_sem, Nat.reduceAdd, Nat.reduceLT, Nat.reduceLeDiff, Nat.reduceEqDiff, Nat.reduceSub, Nat.reduceMul, Nat.reduceBEq, Nat.reduceBNe, Nat.reducePow, Nat.reduceDiv, Int.reduceLE, Int.reduceLT, Int.reduceToNat, Int.reduceNeg, Int.reduceAdd, Int.reduceSub, Int.reduceEq, reduceIte, reduceCtorEq, UInt8.reduceOfNat, true_and]
      first
      | refine hK _ ?_
      | refine And.intro (by first | omega | (simp; done) | (simp; omega) | (simp +contextual; done) | (simp_all; done) | (simp_all; omega)) (hK _ ?_)
      clear hK K
      refine WA.block ?_
      refine WA.loopW hX (fun k => k) ((fun (i : Nat) => ⟨[(12, .li 6 (x.map cmA)), (14, .li 6 (x.map cmA)), (16, .lit (.int .i64 (i : Nat))), (1, .lit (.int .i64 size)), (7, .ptr 2048 0 0), (8, .ptr 2056 0 0), (9, .ptr 2112 0 0), (10, .ptr 2160 0 0), (11, .ptr 2168 0 0)], [(2048, ⟨.li 6 [.agg [.lit (.int .i64 a.cls), .lit (.int .i64 a.ins), .lit (.int .i64 a.p1), .lit (.int .i64 a.p2), .by_ a.data, .lit (.int .i64 a.exp)]], 0, false⟩), (2056, ⟨.li 6 [.agg [.lit (.int .i64 b.cls), .lit (.int .i64 b.ins), .lit (.int .i64 b.p1), .lit (.int .i64 b.p2), .by_ b.data, .lit (.int .i64 b.exp)]], 0, false⟩), (2160, ⟨.li 6 [.agg [.lit (.int .i64 c.cls), .lit (.int .i64 c.ins), .lit (.int .i64 c.p1), .lit (.int .i64 c.p2), .by_ c.data, .lit (.int .i64 c.exp)]], 0, false⟩), (2168, ⟨.li 6 [.agg [.lit (.int .i64 k.cls), .lit (.int .i64 k.ins), .lit (.int .i64 k.p1), .lit (.int .i64 k.p2), .by_ k.data, .lit (.int .i64 k.exp)]], 0, false⟩), (2112, ⟨.li 2 [.agg [L, .lit (.int .i64 z4)]], 0, false⟩)], 5000, 166⟩ : _ → St)) (fun i => x.length - i) (fun i => i ≤ x.length) (i0 := 0) (Nat.zero_le _) (by simp only [go_sem, Int.natCast_add, Nat.reduceAdd, Nat.reduceLT, Nat.reduceLeDiff, Nat.reduceEqDiff, Nat.reduceSub, Nat.reduceMul, Nat.reduceBEq, Nat.reduceBNe, Nat.reducePow, Nat.reduceDiv, Int.reduceLE, Int.reduceLT, Int.reduceToNat, Int.reduceNeg, Int.reduceAdd, Int.reduceSub, Int.reduceEq, reduceIte, reduceCtorEq, UInt8.reduceOfNat, Tr_cms, true_or, Int.natCast_zero, hT] <;> (try and_intros) <;> (try omega)) fun i hi => ?_
      have lx : (x.map cmA).length = x.length := List.length_map _
      refine WA.seq ?_
      refine WA.regionK ty_ok hs fun K hK => ?_
      simp only [go_sem, Nat.reduceAdd, Nat.reduceLT, Nat.reduceLeDiff, Nat.reduceEqDiff, Nat.reduceSub, Nat.reduceMul, Nat.reduceBEq, Nat.reduceBNe, Nat.reducePow, Nat.reduceDiv, Int.reduceLE, Int.reduceLT, Int.reduceToNat, Int.reduceNeg, Int.reduceAdd, Int.reduceSub, Int.reduceEq, reduceIte, reduceCtorEq, UInt8.reduceOfNat, true_and]
      first
      | refine hK _ ?_
      | refine And.intro (by first | omega | (simp; done) | (simp; omega) | (simp +contextual; done) | (simp_all; done) | (simp_all; omega)) (hK _ ?_)
      clear hK K
      refine WA.cond rfl (fun h => ?_) (fun h => ?_)
      ·
        with_reducible refine WA.skipN ?_
        repeat first | with_reducible refine WN.t ?_ | with_reducible refine WN.b ?_
        have h : (i : Int) < (x.length : Nat) := by first | (simp only [Bool.and_eq_true, Bool.or_eq_true, Bool.not_eq_true', decide_eq_true_eq, decide_eq_false_iff_not, beq_iff_eq, bne_iff_ne, ne_eq, Bool.not_eq_eq_eq_not, Bool.not_true, Bool.not_false, beq_eq_false_iff_ne, bne_eq_false_iff_eq, Bool.and_eq_false_imp, Bool.or_eq_false_iff, Bool.cond_false_right, Bool.cond_true_left, Bool.cond_false_left, Bool.cond_true_right, gt_iff_lt, ge_iff_le, true_and] at h; first | exact h | omega) | omega | simpa using h
        have hi2 : i < x.length := by omega
        have g := cm_at hi2
        refine WA.seq ?_
        refine WA.block ?_
        refine WA.drawnK mixed_ ty_ok hs (tbl := [[], [], [0, 1], [0, 1, 2], [], [], [4, 5], [4, 5, 6], [0, 1, 2, 3, 4, 5, 6, 7], [0, 1, 2, 3, 4, 5, 6, 7, 8]]) (nb := [3, 7, 8]) (by kernel_rfl) fun K hK => ?_
        simp only [go_sem, Nat.reduceAdd, Nat.reduceLT, Nat.reduceLeDiff, Nat.reduceEqDiff, Nat.reduceSub, Nat.reduceMul, Nat.reduceBEq, Nat.reduceBNe, Nat.reducePow, Nat.reduceDiv, Int.reduceLE, Int.reduceLT, Int.reduceToNat, Int.reduceNeg, Int.reduceAdd, Int.reduceSub, Int.reduceEq, reduceIte, reduceCtorEq, UInt8.reduceOfNat, sgT, g, samC_self]
        first
        | refine hK _ ?_
        | refine And.intro (by first | omega | (simp; done) | (simp; omega) | (simp +contextual; done) | (simp_all; done) | (simp_all; omega)) (hK _ ?_)
        clear hK K
        refine WA.cond rfl (fun h => ?_) (fun h => ?_)
        · cases h
        ·
          with_reducible refine WA.skipN ?_
          repeat first | with_reducible refine WN.t ?_ | with_reducible refine WN.b ?_
          refine WA.regionE ty_ok hs fun K hK => ?_
          simp only [go_sem, Nat.reduceAdd, Nat.reduceLT, Nat.reduceLeDiff, Nat.reduceEqDiff, Nat.reduceSub, Nat.reduceMul, Nat.reduceBEq, Nat.reduceBNe, Nat.reducePow, Nat.reduceDiv, Int.reduceLE, Int.reduceLT, Int.reduceToNat, Int.reduceNeg, Int.reduceAdd, Int.reduceSub, Int.reduceEq, reduceIte, reduceCtorEq, UInt8.reduceOfNat, true_and]
          repeat refine And.intro (by first | omega | assumption | (simp; done) | (simp; omega) | (simp +contextual; done) | (simp_all; done) | (simp_all; omega)) ?_
          refine hK _ (roundE hX (fun k => k) (j := i + 1) (by omega) (by first | omega | (dsimp only; omega) | (simp; omega)) (by simp only [go_sem, Int.natCast_add, Nat.reduceAdd, Nat.reduceLT, Nat.reduceLeDiff, Nat.reduceEqDiff, Nat.reduceSub, Nat.reduceMul, Nat.reduceBEq, Nat.reduceBNe, Nat.reducePow, Nat.reduceDiv, Int.reduceLE, Int.reduceLT, Int.reduceToNat, Int.reduceNeg, Int.reduceAdd, Int.reduceSub, Int.reduceEq, reduceIte, reduceCtorEq, UInt8.reduceOfNat, Tr_cms, hT] <;> (try and_intros) <;> (try omega)))
      ·
        with_reducible refine WA.exitX ?_
        repeat first | with_reducible refine WX.b ?_ | with_reducible refine WX.t ?_ | (with_reducible refine WX.n ?hne ?_; case hne => rfl)
        have hJ1 : (⟨(jnV c k).cls, (jnV c k).ins, (jnV c k).p1, (jnV c k).p2, (jnV c k).data, (jnV c k).exp⟩ : Cm) = jnV c k := rfl
        have hJ2 : (⟨(jnV a b).cls, (jnV a b).ins, (jnV a b).p1, (jnV a b).p2, (jnV a b).data, (jnV a b).exp⟩ : Cm) = jnV a b := rfl
        refine WA.regionK ty_ok hs fun K hK => ?_
        simp only [go_sem, Nat.reduceAdd, Nat.reduceLT, Nat.reduceLeDiff, Nat.reduceEqDiff, Nat.reduceSub, Nat.reduceMul, Nat.reduceBEq, Nat.reduceBNe, Nat.reducePow, Nat.reduceDiv, Int.reduceLE, Int.reduceLT, Int.reduceToNat, Int.reduceNeg, Int.reduceAdd, Int.reduceSub, Int.reduceEq, reduceIte, reduceCtorEq, UInt8.reduceOfNat, sgT, hC, hK']
        first
        | refine hK _ ?_
        | refine And.intro (by first | omega | (simp; done) | (simp; omega) | (simp +contextual; done) | (simp_all; done) | (simp_all; omega)) (hK _ ?_)
        clear hK K
        refine WA.regionK ty_ok hs fun K hK => ?_
        simp only [go_sem, Nat.reduceAdd, Nat.reduceLT, Nat.reduceLeDiff, Nat.reduceEqDiff, Nat.reduceSub, Nat.reduceMul, Nat.reduceBEq, Nat.reduceBNe, Nat.reducePow, Nat.reduceDiv, Int.reduceLE, Int.reduceLT, Int.reduceToNat, Int.reduceNeg, Int.reduceAdd, Int.reduceSub, Int.reduceEq, reduceIte, reduceCtorEq, UInt8.reduceOfNat, sgT, hC, hK']
        first
        | refine hK _ ?_
        | refine And.intro (by first | omega | (simp; done) | (simp; omega) | (simp +contextual; done) | (simp_all; done) | (simp_all; omega)) (hK _ ?_)
        clear hK K
        refine WA.regionK ty_ok hs fun K hK => ?_
        simp only [go_sem, Nat.reduceAdd, Nat.reduceLT, Nat.reduceLeDiff, Nat.reduceEqDiff, Nat.reduceSub, Nat.reduceMul, Nat.reduceBEq, Nat.reduceBNe, Nat.reducePow, Nat.reduceDiv, Int.reduceLE, Int.reduceLT, Int.reduceToNat, Int.reduceNeg, Int.reduceAdd, Int.reduceSub, Int.reduceEq, reduceIte, reduceCtorEq, UInt8.reduceOfNat, sgT, hA, hB]
        first
        | refine hK _ ?_
        | refine And.intro (by first | omega | (simp; done) | (simp; omega) | (simp +contextual; done) | (simp_all; done) | (simp_all; omega)) (hK _ ?_)
        clear hK K
        refine WA.regionK ty_ok hs fun K hK => ?_
        simp only [go_sem, Nat.reduceAdd, Nat.reduceLT, Nat.reduceLeDiff, Nat.reduceEqDiff, Nat.reduceSub, Nat.reduceMul, Nat.reduceBEq, Nat.reduceBNe, Nat.reducePow, Nat.reduceDiv, Int.reduceLE, Int.reduceLT, Int.reduceToNat, Int.reduceNeg, Int.reduceAdd, Int.reduceSub, Int.reduceEq, reduceIte, reduceCtorEq, UInt8.reduceOfNat, sgT, hA, hB]
        first
        | refine hK _ ?_
        | refine And.intro (by first | omega | (simp; done) | (simp; omega) | (simp +contextual; done) | (simp_all; done) | (simp_all; omega)) (hK _ ?_)
        clear hK K
        refine WA.regionK ty_ok hs fun K hK => ?_
        simp only [go_sem, Nat.reduceAdd, Nat.reduceLT, Nat.reduceLeDiff, Nat.reduceEqDiff, Nat.reduceSub, Nat.reduceMul, Nat.reduceBEq, Nat.reduceBNe, Nat.reducePow, Nat.reduceDiv, Int.reduceLE, Int.reduceLT, Int.reduceToNat, Int.reduceNeg, Int.reduceAdd, Int.reduceSub, Int.reduceEq, reduceIte, reduceCtorEq, UInt8.reduceOfNat, sgT, hJ1, hJ2, samC_self]
        first
        | refine hK _ ?_
        | refine And.intro (by first | omega | (simp; done) | (simp; omega) | (simp +contextual; done) | (simp_all; done) | (simp_all; omega)) (hK _ ?_)
        clear hK K
        refine WA.retE ty_ok (xs := [.lit (.bool true)]) (ls' := []) (rv := [.tmp 6]) rfl hX (by decide) (fun _ => rfl) (fun _ _ h => h) ?_
        simp only [go_sem, Nat.reduceAdd, Nat.reduceLT, Nat.reduceLeDiff, Nat.reduceEqDiff, Nat.reduceSub, Nat.reduceMul, Nat.reduceBEq, Nat.reduceBNe, Nat.reducePow, Nat.reduceDiv, Int.reduceLE, Int.reduceLT, Int.reduceToNat, Int.reduceNeg, Int.reduceAdd, Int.reduceSub, Int.reduceEq, reduceIte, reduceCtorEq, UInt8.reduceOfNat, sbT]
        all_goals (first | done | exact Nat.le_refl _ | (simp; done) | (and_intros <;> first | omega | exact Nat.le_refl _ | (simp; done) | (simp; omega)))
end Go.Proofs.Yteodlgmcniikpaa
