import Derived.Test.YtnjmedihheblaaaFilDd
namespace Go.Proofs.Ytnjmedihheblaaa
open Go.RowKit Go.TravelBase Go.TravelAbs
set_option linter.unusedVariables false
set_option linter.unusedSimpArgs false












/-! ### The dice's OddFiles -/
theorem oneb_s (L : AV) (z n : Int) (hd : DcOK L z) (h1 : 1 ≤ n) (h2 : n ≤ 4611686018427387904) : FnS Try.prog 41 [.ptr 0 0 0, .lit (.int .i64 n)] [.li 2 [.agg [L, .lit (.int .i64 z)]]] (.lit (.int .u8 (IntKind.u8.wrap (nxI L z n)))) [.li 2 [.agg [L, .lit (.int .i64 (nxZ L z))]]] := by
  have hs := sgN_ok
  have hT := hd.tr
  refine FnS.of Try.func41 rfl (N := 9) rfl (by simp) (by simp) fun X hX => ?_
  simp only [tmArgs, lentH, Nat.reduceAdd]
  refine WA.regionK ty_ok hs fun K hK => ?_
  simp only [go_sem, Nat.reduceAdd, Nat.reduceLT, Nat.reduceLeDiff, Nat.reduceEqDiff, Nat.reduceSub, Nat.reduceMul, Nat.reduceBEq, Nat.reduceBNe, Nat.reducePow, Nat.reduceDiv, Int.reduceLE, Int.reduceLT, Int.reduceToNat, Int.reduceNeg, Int.reduceAdd, Int.reduceSub, Int.reduceEq, reduceIte, reduceCtorEq, UInt8.reduceOfNat, sgN, hd, hT]
  first
  | refine hK _ ?_
  | refine And.intro (by first | omega | (simp; done) | (simp; omega) | (simp +contextual; done) | (simp_all; done) | (simp_all; omega)) (hK _ ?_)
  clear hK K
  refine WA.regionK ty_ok hs fun K hK => ?_
  simp only [go_sem, Nat.reduceAdd, Nat.reduceLT, Nat.reduceLeDiff, Nat.reduceEqDiff, Nat.reduceSub, Nat.reduceMul, Nat.reduceBEq, Nat.reduceBNe, Nat.reducePow, Nat.reduceDiv, Int.reduceLE, Int.reduceLT, Int.reduceToNat, Int.reduceNeg, Int.reduceAdd, Int.reduceSub, Int.reduceEq, reduceIte, reduceCtorEq, UInt8.reduceOfNat, sgN, hd, hT]
  first
  | refine hK _ ?_
  | refine And.intro (by first | omega | (simp; done) | (simp; omega) | (simp +contextual; done) | (simp_all; done) | (simp_all; omega)) (hK _ ?_)
  clear hK K
  refine WA.retE ty_ok (xs := [.lit (.int .u8 (IntKind.u8.wrap (nxI L z n)))]) (ls' := [.li 2 [.agg [L, .lit (.int .i64 (nxZ L z))]]]) (rv := [.tmp 4]) rfl hX (by simp) (fun _ => rfl) (fun _ _ h => h) ?_
  simp only [go_sem, Nat.reduceAdd, Nat.reduceLT, Nat.reduceLeDiff, Nat.reduceEqDiff, Nat.reduceSub, Nat.reduceMul, Nat.reduceBEq, Nat.reduceBNe, Nat.reducePow, Nat.reduceDiv, Int.reduceLE, Int.reduceLT, Int.reduceToNat, Int.reduceNeg, Int.reduceAdd, Int.reduceSub, Int.reduceEq, reduceIte, reduceCtorEq, UInt8.reduceOfNat, hT]
def sgNb : Sg := fun f args ls =>
  match f, args, ls with
  | 15, [.ptr 0 0 0, .lit (.int .i64 n)], [.li 2 [.agg [L, .lit (.int .i64 z)]]] => some (.lit (.int .i64 (nxI L z n)), [.li 2 [.agg [L, .lit (.int .i64 (nxZ L z))]]], DcOK L z ∧ 1 ≤ n ∧ n ≤ 4611686018427387904)
  | 41, [.ptr 0 0 0, .lit (.int .i64 n)], [.li 2 [.agg [L, .lit (.int .i64 z)]]] => some (.lit (.int .u8 (IntKind.u8.wrap (nxI L z n))), [.li 2 [.agg [L, .lit (.int .i64 (nxZ L z))]]], DcOK L z ∧ 1 ≤ n ∧ n ≤ 4611686018427387904)
  | _, _, _ => none
theorem sgNb_ok : SgOK Try.prog sgNb := by
  intro f args ls r ls' vc h hvc
  unfold sgNb at h
  split at h <;> first | (simp only [Option.some.injEq, Prod.mk.injEq] at h; obtain ⟨rfl, rfl, rfl⟩ := h) | cases h
  · exact ⟨(fnOK Try.func15 (by decide) rfl), next_s _ _ _ hvc.1 hvc.2.1 hvc.2.2⟩
  · exact ⟨(fnOK Try.func41 (by decide) rfl), oneb_s _ _ _ hvc.1 hvc.2.1 hvc.2.2⟩
theorem cvX_fl (f : Fl) (H : List (Nat × Blk)) : cvX H (flA f) = some (flA f, [], True) :=
  cvX_tr (fun H => by simp only [cvL, cv1, Tr_by, Tr_lit, List.nil_append, and_true]) H
theorem cvM_fset (l : List Fl) (k : Nat) (x : AV) (h : k < l.length) (H : List (Nat × Blk)) : cvM H ((l.map flA).set k x) = (cvX H x).map fun t => ((l.map flA).set k t.1, t.2.1, t.2.2) := cvM_set (by simpa using h) (fun x hx H => by
  obtain ⟨a, _, rfl⟩ := List.mem_map.1 hx
  exact cvX_fl a H) H
theorem take_rep (n : Nat) : List.take n (List.replicate n (0 : UInt8)) = List.replicate n 0 := List.take_of_length_le (by simp)
theorem wk_fl (a b c d : Value) : WkC (AV.agg [.lit a, .lit b, .lit (.slice none 0 0), .lit c, .lit d]).cl (AV.agg [.lit a, .lit b, .by_ [], .lit c, .lit d]).cl := ⟨Wk.rfl_ _, Wk.rfl_ _, Wk.by_, Wk.rfl_ _, Wk.rfl_ _, rfl⟩
theorem wk_ap (n : List UInt8) : WkC (AV.agg [.by_ n, .lit (.slice none 0 0)]).cl (AV.agg [.by_ n, .li 5 []]).cl := ⟨Wk.rfl_ _, Wk.li 5 (by decide), rfl⟩
theorem ok_fls (l : List Fl) : ∀ x ∈ l.map flA, okc x = true := fun x hx => by
  obtain ⟨f, _, rfl⟩ := List.mem_map.1 hx
  rfl
theorem ok_aps (l : List Fap) : ∀ x ∈ l.map apA, okc x = true := fun x hx => by
  obtain ⟨f, _, rfl⟩ := List.mem_map.1 hx
  rfl
set_option maxHeartbeats 4000000 in
theorem oddfiles_e (L : AV) (z : Int) (hd : DcOK L z) (root : List Fl) (apps : List Fap) (hr1 : root.length ≤ 4) (ha1 : apps.length ≤ 2) : FnE Try.prog 25 [.ptr 0 0 0, .agg [.li 5 (root.map flA), .li 2 (apps.map apA)]] [.li 2 [.agg [L, .lit (.int .i64 z)]]] (I := (List Fl × List Fap) × Int) (fun i => DcOK L i.2) (fun i => .agg [.li 5 (i.1.1.map flA), .li 2 (i.1.2.map apA)]) (fun i => [.li 2 [.agg [L, .lit (.int .i64 i.2)]]]) := by
  have hs := sgNb_ok
  have hT := hd.tr
  refine FnE.of Try.func25 rfl (N := 146) rfl (by simp) (by simp) fun X hX => ?_
  simp only [tmArgs, lentH, Nat.reduceAdd]
  refine WA.regionK ty_ok hs fun K hK => ?_
  simp only [go_sem, Nat.reduceAdd, Nat.reduceLT, Nat.reduceLeDiff, Nat.reduceEqDiff, Nat.reduceSub, Nat.reduceMul, Nat.reduceBEq, Nat.reduceBNe, Nat.reducePow, Nat.reduceDiv, Int.reduceLE, Int.reduceLT, Int.reduceToNat, Int.reduceNeg, Int.reduceAdd, Int.reduceSub, Int.reduceEq, reduceIte, reduceCtorEq, UInt8.reduceOfNat, Tr_fls, Tr_aps]
  first
  | refine hK _ ?_
  | refine And.intro (by first | omega | (simp; done) | (simp; omega) | (simp +contextual; done) | (simp_all; done) | (simp_all; omega)) (hK _ ?_)
  clear hK K
  refine WA.drawnK mixed_ ty_ok hs (tbl := [[], [0], [0, 1], [], [3], [0, 1, 2, 3, 4], [0, 1, 2, 3, 4, 5], [], [0, 1, 2, 3, 4, 5, 6, 7]]) (nb := [1, 2, 4, 5, 8]) (by kernel_rfl) fun K hK => ?_
  simp only [go_sem, Nat.reduceAdd, Nat.reduceLT, Nat.reduceLeDiff, Nat.reduceEqDiff, Nat.reduceSub, Nat.reduceMul, Nat.reduceBEq, Nat.reduceBNe, Nat.reducePow, Nat.reduceDiv, Int.reduceLE, Int.reduceLT, Int.reduceToNat, Int.reduceNeg, Int.reduceAdd, Int.reduceSub, Int.reduceEq, reduceIte, reduceCtorEq, UInt8.reduceOfNat, TrC_fls, TrC_aps, Tr_fls, Tr_aps]
  refine And.intro ⟨⟨ok_fls root, by omega, by omega⟩, ok_aps apps, by omega, by omega⟩ (hK _ ?_)
  clear hK K
  refine WA.join (fun (r : List Fl) => ⟨[ (0, .ptr 0 0 0), (4, .ptr 2008 0 0), (5, .ptr 2072 0 0)], [(2072, ⟨.li 2 [.agg [.sl 3000 5 0 r.length, .sl 2056 2 0 apps.length]], 0, false⟩), (2008, ⟨.li 2 [.agg [.lit (.slice none 0 0), .lit (.slice none 0 0)]], 0, false⟩), (3000, ⟨.li 5 (r.map flA), 0, false⟩), (2056, ⟨.li 2 (apps.map apA), 0, false⟩), (0, ⟨.li 2 [.agg [L, .lit (.int .i64 z)]], 0, true⟩)], 4000, 146⟩) (fun r => 1 ≤ r.length ∧ r.length ≤ 4) ?_ ?_
  ·
    refine WA.regionK ty_ok hs fun K hK => ?_
    simp only [go_sem, Nat.reduceAdd, Nat.reduceLT, Nat.reduceLeDiff, Nat.reduceEqDiff, Nat.reduceSub, Nat.reduceMul, Nat.reduceBEq, Nat.reduceBNe, Nat.reducePow, Nat.reduceDiv, Int.reduceLE, Int.reduceLT, Int.reduceToNat, Int.reduceNeg, Int.reduceAdd, Int.reduceSub, Int.reduceEq, reduceIte, reduceCtorEq, UInt8.reduceOfNat, true_and]
    first
    | refine hK _ ?_
    | refine And.intro (by first | omega | (simp; done) | (simp; omega) | (simp +contextual; done) | (simp_all; done) | (simp_all; omega)) (hK _ ?_)
    clear hK K
    refine WA.cond rfl (fun h => ?_) (fun h => ?_)
    ·
      refine WA.regionE ty_ok hs fun K hK => ?_
      simp only [go_sem, Nat.reduceAdd, Nat.reduceLT, Nat.reduceLeDiff, Nat.reduceEqDiff, Nat.reduceSub, Nat.reduceMul, Nat.reduceBEq, Nat.reduceBNe, Nat.reducePow, Nat.reduceDiv, Int.reduceLE, Int.reduceLT, Int.reduceToNat, Int.reduceNeg, Int.reduceAdd, Int.reduceSub, Int.reduceEq, reduceIte, reduceCtorEq, UInt8.reduceOfNat, true_and]
      repeat refine And.intro (by first | omega | assumption | (simp; done) | (simp; omega) | (simp +contextual; done) | (simp_all; done) | (simp_all; omega)) ?_
      refine hK _ (sbE 2128 (xs' := [flA ⟨1, 0, [], 0, 0⟩]) rfl ⟨wk_fl _ _ _ _, rfl⟩ ?_)
      refine joinE hX (fun k => if k = 3000 then 2128 else k) [⟨1, 0, [], 0, 0⟩] (by decide) ?_
      simp only [go_sem, Int.natCast_add, Nat.reduceAdd, Nat.reduceLT, Nat.reduceLeDiff, Nat.reduceEqDiff, Nat.reduceSub, Nat.reduceMul, Nat.reduceBEq, Nat.reduceBNe, Nat.reducePow, Nat.reduceDiv, Int.reduceLE, Int.reduceLT, Int.reduceToNat, Int.reduceNeg, Int.reduceAdd, Int.reduceSub, Int.reduceEq, reduceIte, reduceCtorEq, UInt8.reduceOfNat, hT, TrC_aps, Tr_fls, Tr_aps, flA] <;> (try and_intros) <;> (try omega)
    ·
      have h : ¬ root.length = 0 := by simpa using h
      refine WA.skipN (WN.join hX (fun k => if k = 3000 then 2032 else k) (root) (⟨by omega, hr1⟩) (by simp only [go_sem, Int.natCast_add, Nat.reduceAdd, Nat.reduceLT, Nat.reduceLeDiff, Nat.reduceEqDiff, Nat.reduceSub, Nat.reduceMul, Nat.reduceBEq, Nat.reduceBNe, Nat.reducePow, Nat.reduceDiv, Int.reduceLE, Int.reduceLT, Int.reduceToNat, Int.reduceNeg, Int.reduceAdd, Int.reduceSub, Int.reduceEq, reduceIte, reduceCtorEq, UInt8.reduceOfNat, hT, Tr_fls, Tr_aps, TrC_fls, TrC_aps] <;> (try and_intros) <;> (try omega)))
  rintro r ⟨hr2, hr3⟩
  obtain ⟨k, hk⟩ := Int.eq_ofNat_of_zero_le (nx_rng L z (r.length : Int) (by omega)).1
  have hk1 := (nx_rng L z (r.length : Int) (by omega)).2
  rw [hk] at hk1
  have hk2 : k < r.length := by omega
  have hd1 := dc_nx hd
  obtain ⟨b, hb⟩ : ∃ b, nxZ L z = b := ⟨_, rfl⟩
  rw [hb] at hd1
  have hd2 := dc_nx hd1
  obtain ⟨q, hq⟩ : ∃ q, nxZ L b = q := ⟨_, rfl⟩
  rw [hq] at hd2
  obtain ⟨c, hc⟩ : ∃ c, nxI L b 9 = c := ⟨_, rfl⟩
  have g := fl_at hk2
  have hd3 := dc_nx hd2
  have hd4 := dc_nx hd3
  refine WA.regionK ty_ok hs fun K hK => ?_
  simp only [go_sem, Nat.reduceAdd, Nat.reduceLT, Nat.reduceLeDiff, Nat.reduceEqDiff, Nat.reduceSub, Nat.reduceMul, Nat.reduceBEq, Nat.reduceBNe, Nat.reducePow, Nat.reduceDiv, Int.reduceLE, Int.reduceLT, Int.reduceToNat, Int.reduceNeg, Int.reduceAdd, Int.reduceSub, Int.reduceEq, reduceIte, reduceCtorEq, UInt8.reduceOfNat, sgNb, hd, hT, hk, hb]
  first
  | refine hK _ ?_
  | refine And.intro (by first | omega | (simp; done) | (simp; omega) | (simp +contextual; done) | (simp_all; done) | (simp_all; omega)) (hK _ ?_)
  clear hK K
  refine WA.seq ?_
  refine WA.regionK ty_ok hs fun K hK => ?_
  simp only [go_sem, Nat.reduceAdd, Nat.reduceLT, Nat.reduceLeDiff, Nat.reduceEqDiff, Nat.reduceSub, Nat.reduceMul, Nat.reduceBEq, Nat.reduceBNe, Nat.reducePow, Nat.reduceDiv, Int.reduceLE, Int.reduceLT, Int.reduceToNat, Int.reduceNeg, Int.reduceAdd, Int.reduceSub, Int.reduceEq, reduceIte, reduceCtorEq, UInt8.reduceOfNat, sgNb, hd1, hT, hc, hq]
  first
  | refine hK _ ?_
  | refine And.intro (by first | omega | (simp; done) | (simp; omega) | (simp +contextual; done) | (simp_all; done) | (simp_all; omega)) (hK _ ?_)
  clear hK K
  refine WA.block ?_
  refine WA.regionK ty_ok hs fun K hK => ?_
  simp only [go_sem, Nat.reduceAdd, Nat.reduceLT, Nat.reduceLeDiff, Nat.reduceEqDiff, Nat.reduceSub, Nat.reduceMul, Nat.reduceBEq, Nat.reduceBNe, Nat.reducePow, Nat.reduceDiv, Int.reduceLE, Int.reduceLT, Int.reduceToNat, Int.reduceNeg, Int.reduceAdd, Int.reduceSub, Int.reduceEq, reduceIte, reduceCtorEq, UInt8.reduceOfNat, true_and]
  first
  | refine hK _ ?_
  | refine And.intro (by first | omega | (simp; done) | (simp; omega) | (simp +contextual; done) | (simp_all; done) | (simp_all; omega)) (hK _ ?_)
  clear hK K
  refine WA.cond rfl (fun h => ?_) (fun h => ?_)
  ·
    clear h
    obtain ⟨v, hv, ev⟩ := pickI [0, -1, 65535, 65536] (nxI L q 4) (by have := nx_rng L q 4 (by omega); simpa using this)
    simp only [List.map_cons, List.map_nil, iA] at ev
    have hr5 := nx_rng L q 4 (by omega)
    refine WA.drawn2 mixed_ ty_ok hs (tbl := [[], [0], [], [], [], [4], [3, 4, 5], [3, 4, 5, 6], [0, 1, 2, 3, 4, 5, 6, 7], [0, 1, 2, 3, 4, 5, 6, 7, 8], [0, 1, 2, 3, 4, 5, 6, 7, 8, 9]]) (nb := [1, 5, 7, 10]) (hk := [[], [0], [], [], [], [], [], [], [], [], []]) (by kernel_rfl) fun K hK => ?_
    simp only [go_sem, Nat.reduceAdd, Nat.reduceLT, Nat.reduceLeDiff, Nat.reduceEqDiff, Nat.reduceSub, Nat.reduceMul, Nat.reduceBEq, Nat.reduceBNe, Nat.reducePow, Nat.reduceDiv, Int.reduceLE, Int.reduceLT, Int.reduceToNat, Int.reduceNeg, Int.reduceAdd, Int.reduceSub, Int.reduceEq, reduceIte, reduceCtorEq, UInt8.reduceOfNat, sgNb, hd2, hT, ev, g]
    repeat refine And.intro (by first | omega | assumption | (simp; done) | (simp; omega) | (simp +contextual; done) | (simp_all; done) | (simp_all; omega)) ?_
    with_reducible refine hK _ (WN.mk ?_)
    clear hK K
    repeat first | with_reducible refine WN.t ?_ | with_reducible refine WN.b ?_
    skip
    obtain ⟨r2, e2⟩ : ∃ r2, r.set k ⟨v, r[k].short, r[k].content, r[k].level, r[k].right⟩ = r2 := ⟨_, rfl⟩
    refine WA.sb 3000 (xs' := r2.map flA) rfl (WkL.of_eq (by rw [← e2]; simp only [List.map_set, flA])) ?_
    have l2 : r.length = r2.length := by rw [← e2]; simp
    refine WA.norm 2072 fun K hK => ?_
    simp only [go_sem, Nat.reduceAdd, Nat.reduceLT, Nat.reduceLeDiff, Nat.reduceEqDiff, Nat.reduceSub, Nat.reduceMul, Nat.reduceBEq, Nat.reduceBNe, Nat.reducePow, Nat.reduceDiv, Int.reduceLE, Int.reduceLT, Int.reduceToNat, Int.reduceNeg, Int.reduceAdd, Int.reduceSub, Int.reduceEq, reduceIte, reduceCtorEq, UInt8.reduceOfNat, TrC_fls, TrC_aps, Tr_fls, Tr_aps, l2]
    first
    | refine hK _ ?_
    | refine And.intro (by first | omega | (simp; done) | (simp; omega) | (simp_all; done) | (simp_all; omega)) (hK _ ?_)
    clear hK K
    refine WA.regionK ty_ok hs fun K hK => ?_
    simp only [go_sem, Nat.reduceAdd, Nat.reduceLT, Nat.reduceLeDiff, Nat.reduceEqDiff, Nat.reduceSub, Nat.reduceMul, Nat.reduceBEq, Nat.reduceBNe, Nat.reducePow, Nat.reduceDiv, Int.reduceLE, Int.reduceLT, Int.reduceToNat, Int.reduceNeg, Int.reduceAdd, Int.reduceSub, Int.reduceEq, reduceIte, reduceCtorEq, UInt8.reduceOfNat, true_and]
    first
    | refine hK _ ?_
    | refine And.intro (by first | omega | (simp; done) | (simp; omega) | (simp +contextual; done) | (simp_all; done) | (simp_all; omega)) (hK _ ?_)
    clear hK K
    refine WA.retE ty_ok (xs := [.agg [.li 5 (r2.map flA), .li 2 (apps.map apA)]]) (ls' := [.li 2 [.agg [L, .lit (.int .i64 (nxZ L q))]]]) (rv := [.cell 4 43]) rfl hX (by simp) (fun _ => rfl) (fun _ _ h => ⟨((r2, apps), (nxZ L q)), hd3, h⟩) ?_
    simp only [go_sem, Nat.reduceAdd, Nat.reduceLT, Nat.reduceLeDiff, Nat.reduceEqDiff, Nat.reduceSub, Nat.reduceMul, Nat.reduceBEq, Nat.reduceBNe, Nat.reducePow, Nat.reduceDiv, Int.reduceLE, Int.reduceLT, Int.reduceToNat, Int.reduceNeg, Int.reduceAdd, Int.reduceSub, Int.reduceEq, reduceIte, reduceCtorEq, UInt8.reduceOfNat, hT, Tr_fls, Tr_aps, TrC_fls, TrC_aps, l2]
  ·
    refine WA.regionK ty_ok hs fun K hK => ?_
    simp only [go_sem, Nat.reduceAdd, Nat.reduceLT, Nat.reduceLeDiff, Nat.reduceEqDiff, Nat.reduceSub, Nat.reduceMul, Nat.reduceBEq, Nat.reduceBNe, Nat.reducePow, Nat.reduceDiv, Int.reduceLE, Int.reduceLT, Int.reduceToNat, Int.reduceNeg, Int.reduceAdd, Int.reduceSub, Int.reduceEq, reduceIte, reduceCtorEq, UInt8.reduceOfNat, true_and]
    first
    | refine hK _ ?_
    | refine And.intro (by first | omega | (simp; done) | (simp; omega) | (simp +contextual; done) | (simp_all; done) | (simp_all; omega)) (hK _ ?_)
    clear hK K
    refine WA.cond rfl (fun h => ?_) (fun h => ?_)
    ·
      clear h
      obtain ⟨v, hv, ev⟩ := pickI [-1, 30, 31] (nxI L q 3) (by have := nx_rng L q 3 (by omega); simpa using this)
      simp only [List.map_cons, List.map_nil, iA] at ev
      have hr5 := nx_rng L q 3 (by omega)
      refine WA.drawn2 mixed_ ty_ok hs (tbl := [[], [0], [], [], [], [4], [3, 4, 5], [3, 4, 5, 6], [0, 1, 2, 3, 4, 5, 6, 7], [0, 1, 2, 3, 4, 5, 6, 7, 8], [0, 1, 2, 3, 4, 5, 6, 7, 8, 9]]) (nb := [1, 5, 7, 10]) (hk := [[], [0], [], [], [], [], [], [], [], [], []]) (by kernel_rfl) fun K hK => ?_
      simp only [go_sem, Nat.reduceAdd, Nat.reduceLT, Nat.reduceLeDiff, Nat.reduceEqDiff, Nat.reduceSub, Nat.reduceMul, Nat.reduceBEq, Nat.reduceBNe, Nat.reducePow, Nat.reduceDiv, Int.reduceLE, Int.reduceLT, Int.reduceToNat, Int.reduceNeg, Int.reduceAdd, Int.reduceSub, Int.reduceEq, reduceIte, reduceCtorEq, UInt8.reduceOfNat, sgNb, hd2, hT, ev, g]
      repeat refine And.intro (by first | omega | assumption | (simp; done) | (simp; omega) | (simp +contextual; done) | (simp_all; done) | (simp_all; omega)) ?_
      with_reducible refine hK _ (WN.mk ?_)
      clear hK K
      repeat first | with_reducible refine WN.t ?_ | with_reducible refine WN.b ?_
      skip
      obtain ⟨r2, e2⟩ : ∃ r2, r.set k ⟨r[k].id, v, r[k].content, r[k].level, r[k].right⟩ = r2 := ⟨_, rfl⟩
      refine WA.sb 3000 (xs' := r2.map flA) rfl (WkL.of_eq (by rw [← e2]; simp only [List.map_set, flA])) ?_
      have l2 : r.length = r2.length := by rw [← e2]; simp
      refine WA.norm 2072 fun K hK => ?_
      simp only [go_sem, Nat.reduceAdd, Nat.reduceLT, Nat.reduceLeDiff, Nat.reduceEqDiff, Nat.reduceSub, Nat.reduceMul, Nat.reduceBEq, Nat.reduceBNe, Nat.reducePow, Nat.reduceDiv, Int.reduceLE, Int.reduceLT, Int.reduceToNat, Int.reduceNeg, Int.reduceAdd, Int.reduceSub, Int.reduceEq, reduceIte, reduceCtorEq, UInt8.reduceOfNat, TrC_fls, TrC_aps, Tr_fls, Tr_aps, l2]
      first
      | refine hK _ ?_
      | refine And.intro (by first | omega | (simp; done) | (simp; omega) | (simp_all; done) | (simp_all; omega)) (hK _ ?_)
      clear hK K
      refine WA.regionK ty_ok hs fun K hK => ?_
      simp only [go_sem, Nat.reduceAdd, Nat.reduceLT, Nat.reduceLeDiff, Nat.reduceEqDiff, Nat.reduceSub, Nat.reduceMul, Nat.reduceBEq, Nat.reduceBNe, Nat.reducePow, Nat.reduceDiv, Int.reduceLE, Int.reduceLT, Int.reduceToNat, Int.reduceNeg, Int.reduceAdd, Int.reduceSub, Int.reduceEq, reduceIte, reduceCtorEq, UInt8.reduceOfNat, true_and]
      first
      | refine hK _ ?_
      | refine And.intro (by first | omega | (simp; done) | (simp; omega) | (simp +contextual; done) | (simp_all; done) | (simp_all; omega)) (hK _ ?_)
      clear hK K
      refine WA.retE ty_ok (xs := [.agg [.li 5 (r2.map flA), .li 2 (apps.map apA)]]) (ls' := [.li 2 [.agg [L, .lit (.int .i64 (nxZ L q))]]]) (rv := [.cell 4 43]) rfl hX (by simp) (fun _ => rfl) (fun _ _ h => ⟨((r2, apps), (nxZ L q)), hd3, h⟩) ?_
      simp only [go_sem, Nat.reduceAdd, Nat.reduceLT, Nat.reduceLeDiff, Nat.reduceEqDiff, Nat.reduceSub, Nat.reduceMul, Nat.reduceBEq, Nat.reduceBNe, Nat.reducePow, Nat.reduceDiv, Int.reduceLE, Int.reduceLT, Int.reduceToNat, Int.reduceNeg, Int.reduceAdd, Int.reduceSub, Int.reduceEq, reduceIte, reduceCtorEq, UInt8.reduceOfNat, hT, Tr_fls, Tr_aps, TrC_fls, TrC_aps, l2]
    ·
      refine WA.regionK ty_ok hs fun K hK => ?_
      simp only [go_sem, Nat.reduceAdd, Nat.reduceLT, Nat.reduceLeDiff, Nat.reduceEqDiff, Nat.reduceSub, Nat.reduceMul, Nat.reduceBEq, Nat.reduceBNe, Nat.reducePow, Nat.reduceDiv, Int.reduceLE, Int.reduceLT, Int.reduceToNat, Int.reduceNeg, Int.reduceAdd, Int.reduceSub, Int.reduceEq, reduceIte, reduceCtorEq, UInt8.reduceOfNat, true_and]
      first
      | refine hK _ ?_
      | refine And.intro (by first | omega | (simp; done) | (simp; omega) | (simp +contextual; done) | (simp_all; done) | (simp_all; omega)) (hK _ ?_)
      clear hK K
      refine WA.cond rfl (fun h => ?_) (fun h => ?_)
      ·
        clear h
        have hr5 := nx_rng L q 2 (by omega)
        refine WA.drawn2 mixed_ ty_ok hs (tbl := [[], [0], [], [], [3], [3, 4], [3, 4, 5], [0, 1, 2, 3, 4, 5, 6], [0, 1, 2, 3, 4, 5, 6, 7], [0, 1, 2, 3, 4, 5, 6, 7, 8]]) (nb := [1, 4, 9]) (hk := [[], [0], [], [], [], [], [], [], [], []]) (by kernel_rfl) fun K hK => ?_
        simp only [go_sem, Nat.reduceAdd, Nat.reduceLT, Nat.reduceLeDiff, Nat.reduceEqDiff, Nat.reduceSub, Nat.reduceMul, Nat.reduceBEq, Nat.reduceBNe, Nat.reducePow, Nat.reduceDiv, Int.reduceLE, Int.reduceLT, Int.reduceToNat, Int.reduceNeg, Int.reduceAdd, Int.reduceSub, Int.reduceEq, reduceIte, reduceCtorEq, UInt8.reduceOfNat, sgNb, hd2, hT, g]
        repeat refine And.intro (by first | omega | assumption | (simp; done) | (simp; omega) | (simp +contextual; done) | (simp_all; done) | (simp_all; omega)) ?_
        with_reducible refine hK _ (WN.mk ?_)
        clear hK K
        repeat first | with_reducible refine WN.t ?_ | with_reducible refine WN.b ?_
        have s1 := fun (x : AV) H => cvM_fset r k x hk2 H
        refine WA.norm 3000 fun K hK => ?_
        simp only [go_sem, Nat.reduceAdd, Nat.reduceLT, Nat.reduceLeDiff, Nat.reduceEqDiff, Nat.reduceSub, Nat.reduceMul, Nat.reduceBEq, Nat.reduceBNe, Nat.reducePow, Nat.reduceDiv, Int.reduceLE, Int.reduceLT, Int.reduceToNat, Int.reduceNeg, Int.reduceAdd, Int.reduceSub, Int.reduceEq, reduceIte, reduceCtorEq, UInt8.reduceOfNat, s1, take_rep]
        first
        | refine hK _ ?_
        | refine And.intro (by first | omega | (simp; done) | (simp; omega) | (simp_all; done) | (simp_all; omega)) (hK _ ?_)
        clear hK K
        obtain ⟨r2, e2⟩ : ∃ r2, r.set k ⟨r[k].id, r[k].short, List.replicate (4096 + nxI L q 2).toNat 0, r[k].level, r[k].right⟩ = r2 := ⟨_, rfl⟩
        refine WA.sb 3000 (xs' := r2.map flA) rfl (WkL.of_eq (by rw [← e2]; simp only [List.map_set, flA])) ?_
        have l2 : r.length = r2.length := by rw [← e2]; simp
        refine WA.norm 2072 fun K hK => ?_
        simp only [go_sem, Nat.reduceAdd, Nat.reduceLT, Nat.reduceLeDiff, Nat.reduceEqDiff, Nat.reduceSub, Nat.reduceMul, Nat.reduceBEq, Nat.reduceBNe, Nat.reducePow, Nat.reduceDiv, Int.reduceLE, Int.reduceLT, Int.reduceToNat, Int.reduceNeg, Int.reduceAdd, Int.reduceSub, Int.reduceEq, reduceIte, reduceCtorEq, UInt8.reduceOfNat, TrC_fls, TrC_aps, Tr_fls, Tr_aps, l2]
        first
        | refine hK _ ?_
        | refine And.intro (by first | omega | (simp; done) | (simp; omega) | (simp_all; done) | (simp_all; omega)) (hK _ ?_)
        clear hK K
        refine WA.regionK ty_ok hs fun K hK => ?_
        simp only [go_sem, Nat.reduceAdd, Nat.reduceLT, Nat.reduceLeDiff, Nat.reduceEqDiff, Nat.reduceSub, Nat.reduceMul, Nat.reduceBEq, Nat.reduceBNe, Nat.reducePow, Nat.reduceDiv, Int.reduceLE, Int.reduceLT, Int.reduceToNat, Int.reduceNeg, Int.reduceAdd, Int.reduceSub, Int.reduceEq, reduceIte, reduceCtorEq, UInt8.reduceOfNat, true_and]
        first
        | refine hK _ ?_
        | refine And.intro (by first | omega | (simp; done) | (simp; omega) | (simp +contextual; done) | (simp_all; done) | (simp_all; omega)) (hK _ ?_)
        clear hK K
        refine WA.retE ty_ok (xs := [.agg [.li 5 (r2.map flA), .li 2 (apps.map apA)]]) (ls' := [.li 2 [.agg [L, .lit (.int .i64 (nxZ L q))]]]) (rv := [.cell 4 43]) rfl hX (by simp) (fun _ => rfl) (fun _ _ h => ⟨((r2, apps), (nxZ L q)), hd3, h⟩) ?_
        simp only [go_sem, Nat.reduceAdd, Nat.reduceLT, Nat.reduceLeDiff, Nat.reduceEqDiff, Nat.reduceSub, Nat.reduceMul, Nat.reduceBEq, Nat.reduceBNe, Nat.reducePow, Nat.reduceDiv, Int.reduceLE, Int.reduceLT, Int.reduceToNat, Int.reduceNeg, Int.reduceAdd, Int.reduceSub, Int.reduceEq, reduceIte, reduceCtorEq, UInt8.reduceOfNat, hT, Tr_fls, Tr_aps, TrC_fls, TrC_aps, l2]
      ·
        refine WA.regionK ty_ok hs fun K hK => ?_
        simp only [go_sem, Nat.reduceAdd, Nat.reduceLT, Nat.reduceLeDiff, Nat.reduceEqDiff, Nat.reduceSub, Nat.reduceMul, Nat.reduceBEq, Nat.reduceBNe, Nat.reducePow, Nat.reduceDiv, Int.reduceLE, Int.reduceLT, Int.reduceToNat, Int.reduceNeg, Int.reduceAdd, Int.reduceSub, Int.reduceEq, reduceIte, reduceCtorEq, UInt8.reduceOfNat, true_and]
        first
        | refine hK _ ?_
        | refine And.intro (by first | omega | (simp; done) | (simp; omega) | (simp +contextual; done) | (simp_all; done) | (simp_all; omega)) (hK _ ?_)
        clear hK K
        refine WA.cond rfl (fun h => ?_) (fun h => ?_)
        ·
          clear h
          have hr5 := nx_rng L q 7 (by omega)
          have hr6 := nx_rng L (nxZ L q) 18 (by omega)
          refine WA.drawn2 mixed_ ty_ok hs (tbl := [[], [0], [], [], [3], [3, 4], [], [3, 4, 6], [3, 4, 6, 7], [3, 4, 5, 6, 7, 8], [0, 1, 2, 3, 4, 5, 6, 7, 8, 9], [0, 1, 2, 3, 4, 5, 6, 7, 8, 9, 10], [0, 1, 2, 3, 4, 5, 6, 7, 8, 9, 10, 11]]) (nb := [1, 4, 7, 12]) (hk := [[], [0], [], [], [], [], [], [], [], [], [], [], []]) (by kernel_rfl) fun K hK => ?_
          simp only [go_sem, Nat.reduceAdd, Nat.reduceLT, Nat.reduceLeDiff, Nat.reduceEqDiff, Nat.reduceSub, Nat.reduceMul, Nat.reduceBEq, Nat.reduceBNe, Nat.reducePow, Nat.reduceDiv, Int.reduceLE, Int.reduceLT, Int.reduceToNat, Int.reduceNeg, Int.reduceAdd, Int.reduceSub, Int.reduceEq, reduceIte, reduceCtorEq, UInt8.reduceOfNat, sgNb, hd2, hd3, hT, g]
          repeat refine And.intro (by first | omega | assumption | (simp; done) | (simp; omega) | (simp +contextual; done) | (simp_all; done) | (simp_all; omega)) ?_
          with_reducible refine hK _ (WN.mk ?_)
          clear hK K
          repeat first | with_reducible refine WN.t ?_ | with_reducible refine WN.b ?_
          skip
          obtain ⟨r2, e2⟩ : ∃ r2, r.set k ⟨r[k].id, r[k].short, r[k].content, nxI L q 7 - 1, nxI L (nxZ L q) 18 - 1⟩ = r2 := ⟨_, rfl⟩
          refine WA.sb 3000 (xs' := r2.map flA) rfl (WkL.of_eq (by rw [← e2]; simp only [List.map_set, flA])) ?_
          have l2 : r.length = r2.length := by rw [← e2]; simp
          refine WA.norm 2072 fun K hK => ?_
          simp only [go_sem, Nat.reduceAdd, Nat.reduceLT, Nat.reduceLeDiff, Nat.reduceEqDiff, Nat.reduceSub, Nat.reduceMul, Nat.reduceBEq, Nat.reduceBNe, Nat.reducePow, Nat.reduceDiv, Int.reduceLE, Int.reduceLT, Int.reduceToNat, Int.reduceNeg, Int.reduceAdd, Int.reduceSub, Int.reduceEq, reduceIte, reduceCtorEq, UInt8.reduceOfNat, TrC_fls, TrC_aps, Tr_fls, Tr_aps, l2]
          first
          | refine hK _ ?_
          | refine And.intro (by first | omega | (simp; done) | (simp; omega) | (simp_all; done) | (simp_all; omega)) (hK _ ?_)
          clear hK K
          refine WA.regionK ty_ok hs fun K hK => ?_
          simp only [go_sem, Nat.reduceAdd, Nat.reduceLT, Nat.reduceLeDiff, Nat.reduceEqDiff, Nat.reduceSub, Nat.reduceMul, Nat.reduceBEq, Nat.reduceBNe, Nat.reducePow, Nat.reduceDiv, Int.reduceLE, Int.reduceLT, Int.reduceToNat, Int.reduceNeg, Int.reduceAdd, Int.reduceSub, Int.reduceEq, reduceIte, reduceCtorEq, UInt8.reduceOfNat, true_and]
          first
          | refine hK _ ?_
          | refine And.intro (by first | omega | (simp; done) | (simp; omega) | (simp +contextual; done) | (simp_all; done) | (simp_all; omega)) (hK _ ?_)
          clear hK K
          refine WA.retE ty_ok (xs := [.agg [.li 5 (r2.map flA), .li 2 (apps.map apA)]]) (ls' := [.li 2 [.agg [L, .lit (.int .i64 (nxZ L (nxZ L q)))]]]) (rv := [.cell 4 43]) rfl hX (by simp) (fun _ => rfl) (fun _ _ h => ⟨((r2, apps), (nxZ L (nxZ L q))), hd4, h⟩) ?_
          simp only [go_sem, Nat.reduceAdd, Nat.reduceLT, Nat.reduceLeDiff, Nat.reduceEqDiff, Nat.reduceSub, Nat.reduceMul, Nat.reduceBEq, Nat.reduceBNe, Nat.reducePow, Nat.reduceDiv, Int.reduceLE, Int.reduceLT, Int.reduceToNat, Int.reduceNeg, Int.reduceAdd, Int.reduceSub, Int.reduceEq, reduceIte, reduceCtorEq, UInt8.reduceOfNat, hT, Tr_fls, Tr_aps, TrC_fls, TrC_aps, l2]
        ·
          refine WA.regionK ty_ok hs fun K hK => ?_
          simp only [go_sem, Nat.reduceAdd, Nat.reduceLT, Nat.reduceLeDiff, Nat.reduceEqDiff, Nat.reduceSub, Nat.reduceMul, Nat.reduceBEq, Nat.reduceBNe, Nat.reducePow, Nat.reduceDiv, Int.reduceLE, Int.reduceLT, Int.reduceToNat, Int.reduceNeg, Int.reduceAdd, Int.reduceSub, Int.reduceEq, reduceIte, reduceCtorEq, UInt8.reduceOfNat, true_and]
          first
          | refine hK _ ?_
          | refine And.intro (by first | omega | (simp; done) | (simp; omega) | (simp +contextual; done) | (simp_all; done) | (simp_all; omega)) (hK _ ?_)
          clear hK K
          refine WA.cond rfl (fun h => ?_) (fun h => ?_)
          ·
            clear h
            refine WA.drawn mixed_ ty_ok hs (tbl := [[], [0], [], [2], [], [2, 3, 4], [2, 3, 4, 5], [2, 3, 4, 5, 6], [0, 1, 2, 3, 4, 5, 6, 7], [0, 1, 2, 3, 4, 5, 6, 7, 8], [0, 1, 2, 3, 4, 5, 6, 7, 8, 9]]) (nb := [1, 3, 6, 8, 10]) (by kernel_rfl) fun K hK => ?_
            simp only [go_sem, Nat.reduceAdd, Nat.reduceLT, Nat.reduceLeDiff, Nat.reduceEqDiff, Nat.reduceSub, Nat.reduceMul, Nat.reduceBEq, Nat.reduceBNe, Nat.reducePow, Nat.reduceDiv, Int.reduceLE, Int.reduceLT, Int.reduceToNat, Int.reduceNeg, Int.reduceAdd, Int.reduceSub, Int.reduceEq, reduceIte, reduceCtorEq, UInt8.reduceOfNat, hT, g]
            repeat refine And.intro (by first | omega | assumption | (simp; done) | (simp; omega) | (simp +contextual; done) | (simp_all; done) | (simp_all; omega)) ?_
            with_reducible refine hK _ (WN.mk ?_)
            clear hK K
            repeat first | with_reducible refine WN.t ?_ | with_reducible refine WN.b ?_
            obtain ⟨r2, e2⟩ : ∃ r2, r ++ [r[k]] = r2 := ⟨_, rfl⟩
            refine WA.sb 4208 (xs' := r2.map flA) rfl (WkL.of_eq (by rw [← e2]; simp only [List.map_append, List.map_cons, List.map_nil, flA])) ?_
            have l2 : r.length + 1 = r2.length := by rw [← e2]; simp
            refine WA.norm 2072 fun K hK => ?_
            simp only [go_sem, Nat.reduceAdd, Nat.reduceLT, Nat.reduceLeDiff, Nat.reduceEqDiff, Nat.reduceSub, Nat.reduceMul, Nat.reduceBEq, Nat.reduceBNe, Nat.reducePow, Nat.reduceDiv, Int.reduceLE, Int.reduceLT, Int.reduceToNat, Int.reduceNeg, Int.reduceAdd, Int.reduceSub, Int.reduceEq, reduceIte, reduceCtorEq, UInt8.reduceOfNat, TrC_fls, TrC_aps, Tr_fls, Tr_aps, l2]
            first
            | refine hK _ ?_
            | refine And.intro (by first | omega | (simp; done) | (simp; omega) | (simp_all; done) | (simp_all; omega)) (hK _ ?_)
            clear hK K
            refine WA.regionK ty_ok hs fun K hK => ?_
            simp only [go_sem, Nat.reduceAdd, Nat.reduceLT, Nat.reduceLeDiff, Nat.reduceEqDiff, Nat.reduceSub, Nat.reduceMul, Nat.reduceBEq, Nat.reduceBNe, Nat.reducePow, Nat.reduceDiv, Int.reduceLE, Int.reduceLT, Int.reduceToNat, Int.reduceNeg, Int.reduceAdd, Int.reduceSub, Int.reduceEq, reduceIte, reduceCtorEq, UInt8.reduceOfNat, true_and]
            first
            | refine hK _ ?_
            | refine And.intro (by first | omega | (simp; done) | (simp; omega) | (simp +contextual; done) | (simp_all; done) | (simp_all; omega)) (hK _ ?_)
            clear hK K
            refine WA.retE ty_ok (xs := [.agg [.li 5 (r2.map flA), .li 2 (apps.map apA)]]) (ls' := [.li 2 [.agg [L, .lit (.int .i64 q)]]]) (rv := [.cell 4 43]) rfl hX (by simp) (fun _ => rfl) (fun _ _ h => ⟨((r2, apps), q), hd2, h⟩) ?_
            simp only [go_sem, Nat.reduceAdd, Nat.reduceLT, Nat.reduceLeDiff, Nat.reduceEqDiff, Nat.reduceSub, Nat.reduceMul, Nat.reduceBEq, Nat.reduceBNe, Nat.reducePow, Nat.reduceDiv, Int.reduceLE, Int.reduceLT, Int.reduceToNat, Int.reduceNeg, Int.reduceAdd, Int.reduceSub, Int.reduceEq, reduceIte, reduceCtorEq, UInt8.reduceOfNat, hT, Tr_fls, Tr_aps, TrC_fls, TrC_aps, l2]
          ·
            refine WA.regionK ty_ok hs fun K hK => ?_
            simp only [go_sem, Nat.reduceAdd, Nat.reduceLT, Nat.reduceLeDiff, Nat.reduceEqDiff, Nat.reduceSub, Nat.reduceMul, Nat.reduceBEq, Nat.reduceBNe, Nat.reducePow, Nat.reduceDiv, Int.reduceLE, Int.reduceLT, Int.reduceToNat, Int.reduceNeg, Int.reduceAdd, Int.reduceSub, Int.reduceEq, reduceIte, reduceCtorEq, UInt8.reduceOfNat, true_and]
            first
            | refine hK _ ?_
            | refine And.intro (by first | omega | (simp; done) | (simp; omega) | (simp +contextual; done) | (simp_all; done) | (simp_all; omega)) (hK _ ?_)
            clear hK K
            refine WA.cond rfl (fun h => ?_) (fun h => ?_)
            ·
              clear h
              obtain ⟨v, hv, ev⟩ := pickI [0, 16, 17] (nxI L q 3) (by have := nx_rng L q 3 (by omega); simpa using this)
              simp only [List.map_cons, List.map_nil, iA] at ev
              have hr5 := nx_rng L q 3 (by omega)
              have hv2 : 0 ≤ v ∧ v ≤ 17 := by simp only [List.mem_cons, List.not_mem_nil, or_false] at hv; omega
              refine WA.drawn2 mixed_ ty_ok hs (tbl := [[], [0], [], [], [3], [2, 3, 4], [2, 3, 4, 5], [2, 3, 4, 5, 6], [2, 3, 4, 5, 6, 7], [2, 3, 4, 5, 6, 7, 8], [0, 1, 2, 3, 4, 5, 6, 7, 8, 9], [0, 1, 2, 3, 4, 5, 6, 7, 8, 9, 10], [0, 1, 2, 3, 4, 5, 6, 7, 8, 9, 10, 11]]) (nb := [1, 4, 6, 10, 12]) (hk := [[], [0], [], [], [], [], [], [], [], [], [], [], []]) (by kernel_rfl) fun K hK => ?_
              simp only [go_sem, Nat.reduceAdd, Nat.reduceLT, Nat.reduceLeDiff, Nat.reduceEqDiff, Nat.reduceSub, Nat.reduceMul, Nat.reduceBEq, Nat.reduceBNe, Nat.reducePow, Nat.reduceDiv, Int.reduceLE, Int.reduceLT, Int.reduceToNat, Int.reduceNeg, Int.reduceAdd, Int.reduceSub, Int.reduceEq, reduceIte, reduceCtorEq, UInt8.reduceOfNat, sgNb, hd2, hT, ev, TrC_aps]
              repeat refine And.intro (by first | omega | assumption | (simp; done) | (simp; omega) | (simp +contextual; done) | (simp_all; done) | (simp_all; omega)) ?_
              with_reducible refine hK _ (WN.mk ?_)
              clear hK K
              repeat first | with_reducible refine WN.t ?_ | with_reducible refine WN.b ?_
              refine WA.norm 4240 fun K hK => ?_
              simp only [go_sem, Nat.reduceAdd, Nat.reduceLT, Nat.reduceLeDiff, Nat.reduceEqDiff, Nat.reduceSub, Nat.reduceMul, Nat.reduceBEq, Nat.reduceBNe, Nat.reducePow, Nat.reduceDiv, Int.reduceLE, Int.reduceLT, Int.reduceToNat, Int.reduceNeg, Int.reduceAdd, Int.reduceSub, Int.reduceEq, reduceIte, reduceCtorEq, UInt8.reduceOfNat, cvM_aps, take_rep]
              first
              | refine hK _ ?_
              | refine And.intro (by first | omega | (simp; done) | (simp; omega) | (simp_all; done) | (simp_all; omega)) (hK _ ?_)
              clear hK K
              obtain ⟨a2, e2⟩ : ∃ a2, apps ++ [⟨List.replicate v.toNat 0, []⟩] = a2 := ⟨_, rfl⟩
              refine WA.sb 4240 (xs' := a2.map apA) rfl (by rw [← e2, List.map_append]; exact WkL.app (WkL.rfl_ _) ⟨wk_ap _, rfl⟩) ?_
              have l2 : apps.length + 1 = a2.length := by rw [← e2]; simp
              refine WA.norm 2072 fun K hK => ?_
              simp only [go_sem, Nat.reduceAdd, Nat.reduceLT, Nat.reduceLeDiff, Nat.reduceEqDiff, Nat.reduceSub, Nat.reduceMul, Nat.reduceBEq, Nat.reduceBNe, Nat.reducePow, Nat.reduceDiv, Int.reduceLE, Int.reduceLT, Int.reduceToNat, Int.reduceNeg, Int.reduceAdd, Int.reduceSub, Int.reduceEq, reduceIte, reduceCtorEq, UInt8.reduceOfNat, TrC_fls, TrC_aps, Tr_fls, Tr_aps, l2]
              first
              | refine hK _ ?_
              | refine And.intro (by first | omega | (simp; done) | (simp; omega) | (simp_all; done) | (simp_all; omega)) (hK _ ?_)
              clear hK K
              refine WA.regionK ty_ok hs fun K hK => ?_
              simp only [go_sem, Nat.reduceAdd, Nat.reduceLT, Nat.reduceLeDiff, Nat.reduceEqDiff, Nat.reduceSub, Nat.reduceMul, Nat.reduceBEq, Nat.reduceBNe, Nat.reducePow, Nat.reduceDiv, Int.reduceLE, Int.reduceLT, Int.reduceToNat, Int.reduceNeg, Int.reduceAdd, Int.reduceSub, Int.reduceEq, reduceIte, reduceCtorEq, UInt8.reduceOfNat, true_and]
              first
              | refine hK _ ?_
              | refine And.intro (by first | omega | (simp; done) | (simp; omega) | (simp +contextual; done) | (simp_all; done) | (simp_all; omega)) (hK _ ?_)
              clear hK K
              refine WA.retE ty_ok (xs := [.agg [.li 5 (r.map flA), .li 2 (a2.map apA)]]) (ls' := [.li 2 [.agg [L, .lit (.int .i64 (nxZ L q))]]]) (rv := [.cell 4 43]) rfl hX (by simp) (fun _ => rfl) (fun _ _ h => ⟨((r, a2), (nxZ L q)), hd3, h⟩) ?_
              simp only [go_sem, Nat.reduceAdd, Nat.reduceLT, Nat.reduceLeDiff, Nat.reduceEqDiff, Nat.reduceSub, Nat.reduceMul, Nat.reduceBEq, Nat.reduceBNe, Nat.reducePow, Nat.reduceDiv, Int.reduceLE, Int.reduceLT, Int.reduceToNat, Int.reduceNeg, Int.reduceAdd, Int.reduceSub, Int.reduceEq, reduceIte, reduceCtorEq, UInt8.reduceOfNat, hT, Tr_fls, Tr_aps, TrC_fls, TrC_aps, l2]
            ·
              refine WA.regionK ty_ok hs fun K hK => ?_
              simp only [go_sem, Nat.reduceAdd, Nat.reduceLT, Nat.reduceLeDiff, Nat.reduceEqDiff, Nat.reduceSub, Nat.reduceMul, Nat.reduceBEq, Nat.reduceBNe, Nat.reducePow, Nat.reduceDiv, Int.reduceLE, Int.reduceLT, Int.reduceToNat, Int.reduceNeg, Int.reduceAdd, Int.reduceSub, Int.reduceEq, reduceIte, reduceCtorEq, UInt8.reduceOfNat, true_and]
              first
              | refine hK _ ?_
              | refine And.intro (by first | omega | (simp; done) | (simp; omega) | (simp +contextual; done) | (simp_all; done) | (simp_all; omega)) (hK _ ?_)
              clear hK K
              refine WA.cond rfl (fun h => ?_) (fun h => ?_)
              ·
                clear h
                have hr5 := nx_rng L q 2 (by omega)
                refine WA.drawn2 mixed_ ty_ok hs (tbl := [[], [0], [], [2], [], [4], [4, 5], [4, 5, 6], [2, 3, 4, 5, 6, 7], [0, 1, 2, 3, 4, 5, 6, 7, 8], [0, 1, 2, 3, 4, 5, 6, 7, 8, 9], [0, 1, 2, 3, 4, 5, 6, 7, 8, 9, 10]]) (nb := [1, 5, 9, 11]) (hk := [[], [0], [], [], [], [], [], [], [], [], [], []]) (by kernel_rfl) fun K hK => ?_
                simp only [go_sem, Nat.reduceAdd, Nat.reduceLT, Nat.reduceLeDiff, Nat.reduceEqDiff, Nat.reduceSub, Nat.reduceMul, Nat.reduceBEq, Nat.reduceBNe, Nat.reducePow, Nat.reduceDiv, Int.reduceLE, Int.reduceLT, Int.reduceToNat, Int.reduceNeg, Int.reduceAdd, Int.reduceSub, Int.reduceEq, reduceIte, reduceCtorEq, UInt8.reduceOfNat, sgNb, hd2, hT, TrC_aps]
                repeat refine And.intro (by first | omega | assumption | (simp; done) | (simp; omega) | (simp +contextual; done) | (simp_all; done) | (simp_all; omega)) ?_
                with_reducible refine hK _ (WN.mk ?_)
                clear hK K
                repeat first | with_reducible refine WN.t ?_ | with_reducible refine WN.b ?_
                refine WA.norm 4248 fun K hK => ?_
                simp only [go_sem, Nat.reduceAdd, Nat.reduceLT, Nat.reduceLeDiff, Nat.reduceEqDiff, Nat.reduceSub, Nat.reduceMul, Nat.reduceBEq, Nat.reduceBNe, Nat.reducePow, Nat.reduceDiv, Int.reduceLE, Int.reduceLT, Int.reduceToNat, Int.reduceNeg, Int.reduceAdd, Int.reduceSub, Int.reduceEq, reduceIte, reduceCtorEq, UInt8.reduceOfNat, cvM_aps]
                first
                | refine hK _ ?_
                | refine And.intro (by first | omega | (simp; done) | (simp; omega) | (simp_all; done) | (simp_all; omega)) (hK _ ?_)
                clear hK K
                obtain ⟨a2, e2⟩ : ∃ a2, apps ++ [⟨[1], []⟩, ⟨[byt (nxI L q 2)], []⟩] = a2 := ⟨_, rfl⟩
                refine WA.sb 4248 (xs' := a2.map apA) rfl (by rw [← e2, List.map_append]; exact WkL.app (WkL.rfl_ _) ⟨wk_ap _, wk_ap _, rfl⟩) ?_
                have l2 : apps.length + 2 = a2.length := by rw [← e2]; simp
                refine WA.norm 2072 fun K hK => ?_
                simp only [go_sem, Nat.reduceAdd, Nat.reduceLT, Nat.reduceLeDiff, Nat.reduceEqDiff, Nat.reduceSub, Nat.reduceMul, Nat.reduceBEq, Nat.reduceBNe, Nat.reducePow, Nat.reduceDiv, Int.reduceLE, Int.reduceLT, Int.reduceToNat, Int.reduceNeg, Int.reduceAdd, Int.reduceSub, Int.reduceEq, reduceIte, reduceCtorEq, UInt8.reduceOfNat, TrC_fls, TrC_aps, Tr_fls, Tr_aps, l2]
                first
                | refine hK _ ?_
                | refine And.intro (by first | omega | (simp; done) | (simp; omega) | (simp_all; done) | (simp_all; omega)) (hK _ ?_)
                clear hK K
                refine WA.regionK ty_ok hs fun K hK => ?_
                simp only [go_sem, Nat.reduceAdd, Nat.reduceLT, Nat.reduceLeDiff, Nat.reduceEqDiff, Nat.reduceSub, Nat.reduceMul, Nat.reduceBEq, Nat.reduceBNe, Nat.reducePow, Nat.reduceDiv, Int.reduceLE, Int.reduceLT, Int.reduceToNat, Int.reduceNeg, Int.reduceAdd, Int.reduceSub, Int.reduceEq, reduceIte, reduceCtorEq, UInt8.reduceOfNat, true_and]
                first
                | refine hK _ ?_
                | refine And.intro (by first | omega | (simp; done) | (simp; omega) | (simp +contextual; done) | (simp_all; done) | (simp_all; omega)) (hK _ ?_)
                clear hK K
                refine WA.retE ty_ok (xs := [.agg [.li 5 (r.map flA), .li 2 (a2.map apA)]]) (ls' := [.li 2 [.agg [L, .lit (.int .i64 (nxZ L q))]]]) (rv := [.cell 4 43]) rfl hX (by simp) (fun _ => rfl) (fun _ _ h => ⟨((r, a2), (nxZ L q)), hd3, h⟩) ?_
                simp only [go_sem, Nat.reduceAdd, Nat.reduceLT, Nat.reduceLeDiff, Nat.reduceEqDiff, Nat.reduceSub, Nat.reduceMul, Nat.reduceBEq, Nat.reduceBNe, Nat.reducePow, Nat.reduceDiv, Int.reduceLE, Int.reduceLT, Int.reduceToNat, Int.reduceNeg, Int.reduceAdd, Int.reduceSub, Int.reduceEq, reduceIte, reduceCtorEq, UInt8.reduceOfNat, hT, Tr_fls, Tr_aps, TrC_fls, TrC_aps, l2]
              ·
                refine WA.regionK ty_ok hs fun K hK => ?_
                simp only [go_sem, Nat.reduceAdd, Nat.reduceLT, Nat.reduceLeDiff, Nat.reduceEqDiff, Nat.reduceSub, Nat.reduceMul, Nat.reduceBEq, Nat.reduceBNe, Nat.reducePow, Nat.reduceDiv, Int.reduceLE, Int.reduceLT, Int.reduceToNat, Int.reduceNeg, Int.reduceAdd, Int.reduceSub, Int.reduceEq, reduceIte, reduceCtorEq, UInt8.reduceOfNat, true_and]
                first
                | refine hK _ ?_
                | refine And.intro (by first | omega | (simp; done) | (simp; omega) | (simp +contextual; done) | (simp_all; done) | (simp_all; omega)) (hK _ ?_)
                clear hK K
                refine WA.cond rfl (fun h => ?_) (fun h => ?_)
                ·
                  clear h
                  refine WA.regionK ty_ok hs fun K hK => ?_
                  simp only [go_sem, Nat.reduceAdd, Nat.reduceLT, Nat.reduceLeDiff, Nat.reduceEqDiff, Nat.reduceSub, Nat.reduceMul, Nat.reduceBEq, Nat.reduceBNe, Nat.reducePow, Nat.reduceDiv, Int.reduceLE, Int.reduceLT, Int.reduceToNat, Int.reduceNeg, Int.reduceAdd, Int.reduceSub, Int.reduceEq, reduceIte, reduceCtorEq, UInt8.reduceOfNat, true_and]
                  first
                  | refine hK _ ?_
                  | refine And.intro (by first | omega | (simp; done) | (simp; omega) | (simp +contextual; done) | (simp_all; done) | (simp_all; omega)) (hK _ ?_)
                  clear hK K
                  refine WA.block ?_
                  refine WA.loopW hX (fun k => k) ((fun (i : List Fl × Nat) => ⟨[(7, .lit (.int .i64 (i.2 : Nat))), (0, .ptr 0 0 0), (4, .ptr 2008 0 0), (5, .ptr 2072 0 0)], [(2072, ⟨.li 2 [.agg [.sl 3000 5 0 i.1.length, .sl 2056 2 0 apps.length]], 0, false⟩), (2008, ⟨.li 2 [.agg [.lit (.slice none 0 0), .lit (.slice none 0 0)]], 0, false⟩), (3000, ⟨.li 5 (i.1.map flA), 0, false⟩), (2056, ⟨.li 2 (apps.map apA), 0, false⟩), (0, ⟨.li 2 [.agg [L, .lit (.int .i64 q)]], 0, true⟩)], 4000, 146⟩ : _ → St)) (fun i => 24 - i.2) (fun i => i.1.length = r.length + i.2 ∧ i.2 ≤ 24) (i0 := (r, 0)) (⟨by simp, Nat.zero_le _⟩) (by simp only [go_sem, Int.natCast_add, Nat.reduceAdd, Nat.reduceLT, Nat.reduceLeDiff, Nat.reduceEqDiff, Nat.reduceSub, Nat.reduceMul, Nat.reduceBEq, Nat.reduceBNe, Nat.reducePow, Nat.reduceDiv, Int.reduceLE, Int.reduceLT, Int.reduceToNat, Int.reduceNeg, Int.reduceAdd, Int.reduceSub, Int.reduceEq, reduceIte, reduceCtorEq, UInt8.reduceOfNat, hT, TrC_fls, TrC_aps] <;> (try and_intros) <;> (try omega)) fun ⟨r1, i⟩ hi => ?_
                  simp only at hi
                  obtain ⟨hi1, hi2⟩ := hi
                  refine WA.seq ?_
                  refine WA.regionK ty_ok hs fun K hK => ?_
                  simp only [go_sem, Nat.reduceAdd, Nat.reduceLT, Nat.reduceLeDiff, Nat.reduceEqDiff, Nat.reduceSub, Nat.reduceMul, Nat.reduceBEq, Nat.reduceBNe, Nat.reducePow, Nat.reduceDiv, Int.reduceLE, Int.reduceLT, Int.reduceToNat, Int.reduceNeg, Int.reduceAdd, Int.reduceSub, Int.reduceEq, reduceIte, reduceCtorEq, UInt8.reduceOfNat, true_and]
                  first
                  | refine hK _ ?_
                  | refine And.intro (by first | omega | (simp; done) | (simp; omega) | (simp +contextual; done) | (simp_all; done) | (simp_all; omega)) (hK _ ?_)
                  clear hK K
                  refine WA.cond rfl (fun h => ?_) (fun h => ?_)
                  ·
                    with_reducible refine WA.skipN ?_
                    repeat first | with_reducible refine WN.t ?_ | with_reducible refine WN.b ?_
                    have h6 : i < 24 := by have := of_decide_eq_true h; omega
                    clear h
                    refine WA.seq ?_
                    refine WA.block ?_
                    refine WA.regionE ty_ok hs fun K hK => ?_
                    simp only [go_sem, Nat.reduceAdd, Nat.reduceLT, Nat.reduceLeDiff, Nat.reduceEqDiff, Nat.reduceSub, Nat.reduceMul, Nat.reduceBEq, Nat.reduceBNe, Nat.reducePow, Nat.reduceDiv, Int.reduceLE, Int.reduceLT, Int.reduceToNat, Int.reduceNeg, Int.reduceAdd, Int.reduceSub, Int.reduceEq, reduceIte, reduceCtorEq, UInt8.reduceOfNat, TrC_fls]
                    repeat refine And.intro (by first | omega | assumption | (simp; done) | (simp; omega) | (simp +contextual; done) | (simp_all; done) | (simp_all; omega)) ?_
                    with_reducible refine hK _ (WN.mk ?_)
                    clear hK K
                    repeat first | with_reducible refine WN.t ?_ | with_reducible refine WN.b ?_
                    obtain ⟨r2, e2⟩ : ∃ r2, r1 ++ [⟨1000 + (i : Nat), 0, [], 0, 0⟩] = r2 := ⟨_, rfl⟩
                    refine WA.sb 4064 (xs' := r2.map flA) rfl (by rw [← e2, List.map_append]; exact WkL.app (WkL.rfl_ _) ⟨wk_fl _ _ _ _, rfl⟩) ?_
                    have l2 : r1.length + 1 = r2.length := by rw [← e2]; simp
                    refine WA.regionE ty_ok hs fun K hK => ?_
                    simp only [go_sem, Nat.reduceAdd, Nat.reduceLT, Nat.reduceLeDiff, Nat.reduceEqDiff, Nat.reduceSub, Nat.reduceMul, Nat.reduceBEq, Nat.reduceBNe, Nat.reducePow, Nat.reduceDiv, Int.reduceLE, Int.reduceLT, Int.reduceToNat, Int.reduceNeg, Int.reduceAdd, Int.reduceSub, Int.reduceEq, reduceIte, reduceCtorEq, UInt8.reduceOfNat, true_and]
                    repeat refine And.intro (by first | omega | assumption | (simp; done) | (simp; omega) | (simp +contextual; done) | (simp_all; done) | (simp_all; omega)) ?_
                    refine hK _ (roundE hX (fun k => if k = 3000 then 4064 else k) (j := (r2, i + 1)) (⟨by show r2.length = _ + (i + 1); omega, by show i + 1 ≤ 24; omega⟩) (by first | omega | (dsimp only; omega) | (simp; omega)) (by simp only [go_sem, Int.natCast_add, Nat.reduceAdd, Nat.reduceLT, Nat.reduceLeDiff, Nat.reduceEqDiff, Nat.reduceSub, Nat.reduceMul, Nat.reduceBEq, Nat.reduceBNe, Nat.reducePow, Nat.reduceDiv, Int.reduceLE, Int.reduceLT, Int.reduceToNat, Int.reduceNeg, Int.reduceAdd, Int.reduceSub, Int.reduceEq, reduceIte, reduceCtorEq, UInt8.reduceOfNat, hT, TrC_fls, TrC_aps, l2] <;> (try and_intros) <;> (try omega)))
                  ·
                    with_reducible refine WA.exitX ?_
                    repeat first | with_reducible refine WX.b ?_ | with_reducible refine WX.t ?_ | (with_reducible refine WX.n ?hne ?_; case hne => rfl)
                    refine WA.norm 2072 fun K hK => ?_
                    simp only [go_sem, Nat.reduceAdd, Nat.reduceLT, Nat.reduceLeDiff, Nat.reduceEqDiff, Nat.reduceSub, Nat.reduceMul, Nat.reduceBEq, Nat.reduceBNe, Nat.reducePow, Nat.reduceDiv, Int.reduceLE, Int.reduceLT, Int.reduceToNat, Int.reduceNeg, Int.reduceAdd, Int.reduceSub, Int.reduceEq, reduceIte, reduceCtorEq, UInt8.reduceOfNat, TrC_fls, TrC_aps, Tr_fls, Tr_aps, true_and]
                    first
                    | refine hK _ ?_
                    | refine And.intro (by first | omega | (simp; done) | (simp; omega) | (simp_all; done) | (simp_all; omega)) (hK _ ?_)
                    clear hK K
                    refine WA.regionK ty_ok hs fun K hK => ?_
                    simp only [go_sem, Nat.reduceAdd, Nat.reduceLT, Nat.reduceLeDiff, Nat.reduceEqDiff, Nat.reduceSub, Nat.reduceMul, Nat.reduceBEq, Nat.reduceBNe, Nat.reducePow, Nat.reduceDiv, Int.reduceLE, Int.reduceLT, Int.reduceToNat, Int.reduceNeg, Int.reduceAdd, Int.reduceSub, Int.reduceEq, reduceIte, reduceCtorEq, UInt8.reduceOfNat, true_and]
                    first
                    | refine hK _ ?_
                    | refine And.intro (by first | omega | (simp; done) | (simp; omega) | (simp +contextual; done) | (simp_all; done) | (simp_all; omega)) (hK _ ?_)
                    clear hK K
                    refine WA.retE ty_ok (xs := [.agg [.li 5 (r1.map flA), .li 2 (apps.map apA)]]) (ls' := [.li 2 [.agg [L, .lit (.int .i64 q)]]]) (rv := [.cell 4 43]) rfl hX (by simp) (fun _ => rfl) (fun _ _ h => ⟨((r1, apps), q), hd2, h⟩) ?_
                    simp only [go_sem, Nat.reduceAdd, Nat.reduceLT, Nat.reduceLeDiff, Nat.reduceEqDiff, Nat.reduceSub, Nat.reduceMul, Nat.reduceBEq, Nat.reduceBNe, Nat.reducePow, Nat.reduceDiv, Int.reduceLE, Int.reduceLT, Int.reduceToNat, Int.reduceNeg, Int.reduceAdd, Int.reduceSub, Int.reduceEq, reduceIte, reduceCtorEq, UInt8.reduceOfNat, hT, Tr_fls, Tr_aps, TrC_fls, TrC_aps, true_and]
                ·
                  refine WA.regionK ty_ok hs fun K hK => ?_
                  simp only [go_sem, Nat.reduceAdd, Nat.reduceLT, Nat.reduceLeDiff, Nat.reduceEqDiff, Nat.reduceSub, Nat.reduceMul, Nat.reduceBEq, Nat.reduceBNe, Nat.reducePow, Nat.reduceDiv, Int.reduceLE, Int.reduceLT, Int.reduceToNat, Int.reduceNeg, Int.reduceAdd, Int.reduceSub, Int.reduceEq, reduceIte, reduceCtorEq, UInt8.reduceOfNat, true_and]
                  first
                  | refine hK _ ?_
                  | refine And.intro (by first | omega | (simp; done) | (simp; omega) | (simp +contextual; done) | (simp_all; done) | (simp_all; omega)) (hK _ ?_)
                  clear hK K
                  refine WA.block ?_
                  refine WA.loopW hX (fun k => if k = 3100 then 2056 else k) ((fun (i : List Fap × Nat) => ⟨[(8, .lit (.int .i64 (i.2 : Nat))), (0, .ptr 0 0 0), (4, .ptr 2008 0 0), (5, .ptr 2072 0 0)], [(2072, ⟨.li 2 [.agg [.sl 3000 5 0 r.length, .sl 3100 2 0 i.1.length]], 0, false⟩), (2008, ⟨.li 2 [.agg [.lit (.slice none 0 0), .lit (.slice none 0 0)]], 0, false⟩), (3000, ⟨.li 5 (r.map flA), 0, false⟩), (3100, ⟨.li 2 (i.1.map apA), 0, false⟩), (0, ⟨.li 2 [.agg [L, .lit (.int .i64 q)]], 0, true⟩)], 4000, 146⟩ : _ → St)) (fun i => 3 - i.2) (fun i => i.1.length = apps.length + i.2 ∧ i.2 ≤ 3) (i0 := (apps, 0)) (⟨by simp, Nat.zero_le _⟩) (by simp only [go_sem, Int.natCast_add, Nat.reduceAdd, Nat.reduceLT, Nat.reduceLeDiff, Nat.reduceEqDiff, Nat.reduceSub, Nat.reduceMul, Nat.reduceBEq, Nat.reduceBNe, Nat.reducePow, Nat.reduceDiv, Int.reduceLE, Int.reduceLT, Int.reduceToNat, Int.reduceNeg, Int.reduceAdd, Int.reduceSub, Int.reduceEq, reduceIte, reduceCtorEq, UInt8.reduceOfNat, hT, TrC_fls, TrC_aps] <;> (try and_intros) <;> (try omega)) fun ⟨a1, i⟩ hi => ?_
                  simp only at hi
                  obtain ⟨hi1, hi2⟩ := hi
                  refine WA.seq ?_
                  refine WA.regionK ty_ok hs fun K hK => ?_
                  simp only [go_sem, Nat.reduceAdd, Nat.reduceLT, Nat.reduceLeDiff, Nat.reduceEqDiff, Nat.reduceSub, Nat.reduceMul, Nat.reduceBEq, Nat.reduceBNe, Nat.reducePow, Nat.reduceDiv, Int.reduceLE, Int.reduceLT, Int.reduceToNat, Int.reduceNeg, Int.reduceAdd, Int.reduceSub, Int.reduceEq, reduceIte, reduceCtorEq, UInt8.reduceOfNat, true_and]
                  first
                  | refine hK _ ?_
                  | refine And.intro (by first | omega | (simp; done) | (simp; omega) | (simp +contextual; done) | (simp_all; done) | (simp_all; omega)) (hK _ ?_)
                  clear hK K
                  refine WA.cond rfl (fun h => ?_) (fun h => ?_)
                  ·
                    with_reducible refine WA.skipN ?_
                    repeat first | with_reducible refine WN.t ?_ | with_reducible refine WN.b ?_
                    have h6 : i < 3 := by have := of_decide_eq_true h; omega
                    clear h
                    refine WA.seq ?_
                    refine WA.block ?_
                    refine WA.regionE ty_ok hs fun K hK => ?_
                    simp only [go_sem, Nat.reduceAdd, Nat.reduceLT, Nat.reduceLeDiff, Nat.reduceEqDiff, Nat.reduceSub, Nat.reduceMul, Nat.reduceBEq, Nat.reduceBNe, Nat.reducePow, Nat.reduceDiv, Int.reduceLE, Int.reduceLT, Int.reduceToNat, Int.reduceNeg, Int.reduceAdd, Int.reduceSub, Int.reduceEq, reduceIte, reduceCtorEq, UInt8.reduceOfNat, TrC_aps]
                    repeat refine And.intro (by first | omega | assumption | (simp; done) | (simp; omega) | (simp +contextual; done) | (simp_all; done) | (simp_all; omega)) ?_
                    with_reducible refine hK _ (WN.mk ?_)
                    clear hK K
                    repeat first | with_reducible refine WN.t ?_ | with_reducible refine WN.b ?_
                    refine WA.norm 4072 fun K hK => ?_
                    simp only [go_sem, Nat.reduceAdd, Nat.reduceLT, Nat.reduceLeDiff, Nat.reduceEqDiff, Nat.reduceSub, Nat.reduceMul, Nat.reduceBEq, Nat.reduceBNe, Nat.reducePow, Nat.reduceDiv, Int.reduceLE, Int.reduceLT, Int.reduceToNat, Int.reduceNeg, Int.reduceAdd, Int.reduceSub, Int.reduceEq, reduceIte, reduceCtorEq, UInt8.reduceOfNat, cvM_aps]
                    first
                    | refine hK _ ?_
                    | refine And.intro (by first | omega | (simp; done) | (simp; omega) | (simp_all; done) | (simp_all; omega)) (hK _ ?_)
                    clear hK K
                    obtain ⟨a2, e2⟩ : ∃ a2, a1 ++ [⟨[9, byt (i : Nat)], []⟩] = a2 := ⟨_, rfl⟩
                    refine WA.sb 4072 (xs' := a2.map apA) rfl (by rw [← e2, List.map_append]; exact WkL.app (WkL.rfl_ _) ⟨wk_ap _, rfl⟩) ?_
                    have l2 : a1.length + 1 = a2.length := by rw [← e2]; simp
                    refine WA.regionE ty_ok hs fun K hK => ?_
                    simp only [go_sem, Nat.reduceAdd, Nat.reduceLT, Nat.reduceLeDiff, Nat.reduceEqDiff, Nat.reduceSub, Nat.reduceMul, Nat.reduceBEq, Nat.reduceBNe, Nat.reducePow, Nat.reduceDiv, Int.reduceLE, Int.reduceLT, Int.reduceToNat, Int.reduceNeg, Int.reduceAdd, Int.reduceSub, Int.reduceEq, reduceIte, reduceCtorEq, UInt8.reduceOfNat, true_and]
                    repeat refine And.intro (by first | omega | assumption | (simp; done) | (simp; omega) | (simp +contextual; done) | (simp_all; done) | (simp_all; omega)) ?_
                    refine hK _ (roundE hX (fun k => if k = 3100 then 4072 else k) (j := (a2, i + 1)) (⟨by show a2.length = _ + (i + 1); omega, by show i + 1 ≤ 3; omega⟩) (by first | omega | (dsimp only; omega) | (simp; omega)) (by simp only [go_sem, Int.natCast_add, Nat.reduceAdd, Nat.reduceLT, Nat.reduceLeDiff, Nat.reduceEqDiff, Nat.reduceSub, Nat.reduceMul, Nat.reduceBEq, Nat.reduceBNe, Nat.reducePow, Nat.reduceDiv, Int.reduceLE, Int.reduceLT, Int.reduceToNat, Int.reduceNeg, Int.reduceAdd, Int.reduceSub, Int.reduceEq, reduceIte, reduceCtorEq, UInt8.reduceOfNat, hT, TrC_fls, TrC_aps, l2] <;> (try and_intros) <;> (try omega)))
                  ·
                    with_reducible refine WA.exitX ?_
                    repeat first | with_reducible refine WX.b ?_ | with_reducible refine WX.t ?_ | (with_reducible refine WX.n ?hne ?_; case hne => rfl)
                    refine WA.norm 2072 fun K hK => ?_
                    simp only [go_sem, Nat.reduceAdd, Nat.reduceLT, Nat.reduceLeDiff, Nat.reduceEqDiff, Nat.reduceSub, Nat.reduceMul, Nat.reduceBEq, Nat.reduceBNe, Nat.reducePow, Nat.reduceDiv, Int.reduceLE, Int.reduceLT, Int.reduceToNat, Int.reduceNeg, Int.reduceAdd, Int.reduceSub, Int.reduceEq, reduceIte, reduceCtorEq, UInt8.reduceOfNat, TrC_fls, TrC_aps, Tr_fls, Tr_aps, true_and]
                    first
                    | refine hK _ ?_
                    | refine And.intro (by first | omega | (simp; done) | (simp; omega) | (simp_all; done) | (simp_all; omega)) (hK _ ?_)
                    clear hK K
                    refine WA.regionK ty_ok hs fun K hK => ?_
                    simp only [go_sem, Nat.reduceAdd, Nat.reduceLT, Nat.reduceLeDiff, Nat.reduceEqDiff, Nat.reduceSub, Nat.reduceMul, Nat.reduceBEq, Nat.reduceBNe, Nat.reducePow, Nat.reduceDiv, Int.reduceLE, Int.reduceLT, Int.reduceToNat, Int.reduceNeg, Int.reduceAdd, Int.reduceSub, Int.reduceEq, reduceIte, reduceCtorEq, UInt8.reduceOfNat, true_and]
                    first
                    | refine hK _ ?_
                    | refine And.intro (by first | omega | (simp; done) | (simp; omega) | (simp +contextual; done) | (simp_all; done) | (simp_all; omega)) (hK _ ?_)
                    clear hK K
                    refine WA.retE ty_ok (xs := [.agg [.li 5 (r.map flA), .li 2 (a1.map apA)]]) (ls' := [.li 2 [.agg [L, .lit (.int .i64 q)]]]) (rv := [.cell 4 43]) rfl hX (by simp) (fun _ => rfl) (fun _ _ h => ⟨((r, a1), q), hd2, h⟩) ?_
                    simp only [go_sem, Nat.reduceAdd, Nat.reduceLT, Nat.reduceLeDiff, Nat.reduceEqDiff, Nat.reduceSub, Nat.reduceMul, Nat.reduceBEq, Nat.reduceBNe, Nat.reducePow, Nat.reduceDiv, Int.reduceLE, Int.reduceLT, Int.reduceToNat, Int.reduceNeg, Int.reduceAdd, Int.reduceSub, Int.reduceEq, reduceIte, reduceCtorEq, UInt8.reduceOfNat, hT, Tr_fls, Tr_aps, TrC_fls, TrC_aps, true_and]
end Go.Proofs.Ytnjmedihheblaaa
