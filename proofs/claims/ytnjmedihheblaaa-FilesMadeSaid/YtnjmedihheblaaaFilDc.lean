import Derived.Test.YtnjmedihheblaaaFilDb
namespace Go.Proofs.Ytnjmedihheblaaa
open Go.RowKit Go.TravelBase Go.TravelAbs
set_option linter.unusedVariables false
set_option linter.unusedSimpArgs false












def sgFs : Sg := fun f args ls =>
  match f, args, ls with
  | 15, [.ptr 0 0 0, .lit (.int .i64 n)], [.li 2 [.agg [L, .lit (.int .i64 z)]]] => some (.lit (.int .i64 (nxI L z n)), [.li 2 [.agg [L, .lit (.int .i64 (nxZ L z))]]], DcOK L z ∧ 1 ≤ n ∧ n ≤ 4611686018427387904)
  | 40, [.ptr 0 0 0], [.li 2 [.agg [L, .lit (.int .i64 z)]]] => some (.fr (.li 5 ((dfl L z).map flA)), [.li 2 [.agg [L, .lit (.int .i64 (dflZ L z))]]], DcOK L z)
  | _, _, _ => none
theorem sgFs_ok : SgOK Try.prog sgFs := by
  intro f args ls r ls' vc h hvc
  unfold sgFs at h
  split at h <;> first | (simp only [Option.some.injEq, Prod.mk.injEq] at h; obtain ⟨rfl, rfl, rfl⟩ := h) | cases h
  · exact ⟨(fnOK Try.func15 (by decide) rfl), next_s _ _ _ hvc.1 hvc.2.1 hvc.2.2⟩
  · exact ⟨(fnOK Try.func40 (by decide) rfl), dfiles_s _ _ hvc⟩
theorem TrC_aps (l : List Fap) : TrC (.li 2 (l.map apA)) = True := eq_true (TrC.li fun x hx y hy => by
  obtain ⟨f, _, rfl⟩ := List.mem_map.1 hx
  simp only [apA, AV.cl, List.mem_cons, List.not_mem_nil, or_false] at hy
  rcases hy with rfl | rfl
  · exact Tr.by_ _
  · exact of_eq_true (Tr_fls _))
theorem cvM_aps (l : List Fap) (post : List AV) (H : List (Nat × Blk)) : cvM H (l.map apA ++ post) = (cvM H post).map fun t => (l.map apA ++ t.1, t.2.1, t.2.2) := cvM_app (fun x hx H => by
  obtain ⟨a, _, rfl⟩ := List.mem_map.1 hx
  exact cvX_tr (fun H => by simp only [cvL, cv1, Tr_by, Tr_fls, List.nil_append, and_true]) H) H
theorem dFiles_e (L : AV) (z : Int) (hd : DcOK L z) : FnE Try.prog 22 [.ptr 0 0 0] [.li 2 [.agg [L, .lit (.int .i64 z)]]] (I := (List Fl × List Fap) × Int) (fun i => (i.1.1.length ≤ 4 ∧ i.1.2.length ≤ 2 ∧ ∀ x ∈ i.1.2, x.files.length ≤ 4) ∧ DcOK L i.2) (fun i => .agg [.li 5 (i.1.1.map flA), .li 2 (i.1.2.map apA)]) (fun i => [.li 2 [.agg [L, .lit (.int .i64 i.2)]]]) := by
  have hs := sgFs_ok
  have hT := hd.tr
  have hd1 := dc_dfl hd
  have hr := nx_rng L (dflZ L z) 3 (by omega)
  obtain ⟨a, ha⟩ := Int.eq_ofNat_of_zero_le hr.1
  rw [ha] at hr
  have hd0 := dc_nx hd1
  have hl := dfl_len L z
  obtain ⟨b, hb⟩ : ∃ b, nxZ L (dflZ L z) = b := ⟨_, rfl⟩
  rw [hb] at hd0
  obtain ⟨rt, hrt⟩ : ∃ b, dfl L z = b := ⟨_, rfl⟩
  rw [hrt] at hl
  refine FnE.of Try.func22 rfl (N := 26) rfl (by simp) (by simp) fun X hX => ?_
  simp only [tmArgs, lentH, Nat.reduceAdd]
  refine WA.regionK ty_ok hs fun K hK => ?_
  simp only [go_sem, Nat.reduceAdd, Nat.reduceLT, Nat.reduceLeDiff, Nat.reduceEqDiff, Nat.reduceSub, Nat.reduceMul, Nat.reduceBEq, Nat.reduceBNe, Nat.reducePow, Nat.reduceDiv, Int.reduceLE, Int.reduceLT, Int.reduceToNat, Int.reduceNeg, Int.reduceAdd, Int.reduceSub, Int.reduceEq, reduceIte, reduceCtorEq, UInt8.reduceOfNat, true_and]
  first
  | refine hK _ ?_
  | refine And.intro (by first | omega | (simp; done) | (simp; omega) | (simp +contextual; done) | (simp_all; done) | (simp_all; omega)) (hK _ ?_)
  clear hK K
  refine WA.regionK ty_ok hs fun K hK => ?_
  simp only [go_sem, Nat.reduceAdd, Nat.reduceLT, Nat.reduceLeDiff, Nat.reduceEqDiff, Nat.reduceSub, Nat.reduceMul, Nat.reduceBEq, Nat.reduceBNe, Nat.reducePow, Nat.reduceDiv, Int.reduceLE, Int.reduceLT, Int.reduceToNat, Int.reduceNeg, Int.reduceAdd, Int.reduceSub, Int.reduceEq, reduceIte, reduceCtorEq, UInt8.reduceOfNat, sgFs, hd, hT, hrt, TrC_fls]
  first
  | refine hK _ ?_
  | refine And.intro (by first | omega | (simp; done) | (simp; omega) | (simp +contextual; done) | (simp_all; done) | (simp_all; omega)) (hK _ ?_)
  clear hK K
  refine ownC 2032 2 1 (.agg [.sl 2016 5 0 rt.length, .lit (.slice none 0 0)]) (.li 2 []) rfl rfl rfl (x' := .agg [.sl 2016 5 0 rt.length, .sl 2048 2 0 0]) rfl ?_
  refine WA.seq ?_
  refine WA.regionK ty_ok hs fun K hK => ?_
  simp only [go_sem, Nat.reduceAdd, Nat.reduceLT, Nat.reduceLeDiff, Nat.reduceEqDiff, Nat.reduceSub, Nat.reduceMul, Nat.reduceBEq, Nat.reduceBNe, Nat.reducePow, Nat.reduceDiv, Int.reduceLE, Int.reduceLT, Int.reduceToNat, Int.reduceNeg, Int.reduceAdd, Int.reduceSub, Int.reduceEq, reduceIte, reduceCtorEq, UInt8.reduceOfNat, sgFs, hd1, hT, ha, hb]
  first
  | refine hK _ ?_
  | refine And.intro (by first | omega | (simp; done) | (simp; omega) | (simp +contextual; done) | (simp_all; done) | (simp_all; omega)) (hK _ ?_)
  clear hK K
  refine WA.block ?_
  refine WA.loopW hX (fun k => if k = 3000 then 2048 else if k = 3008 then 2016 else if k = 3016 then 2032 else if k = 3024 then 2000 else k) ((fun (i : List Fap × Nat × Int) => ⟨[(0, .ptr 0 0 0), (2, .ptr 3024 0 0), (3, .ptr 3016 0 0), (4, .lit (.int .i64 (i.2.1 : Nat)))], [(3024, ⟨.li 2 [.agg [.lit (.slice none 0 0), .lit (.slice none 0 0)]], 0, false⟩), (3016, ⟨.li 2 [.agg [.sl 3008 5 0 rt.length, .sl 3000 2 0 i.1.length]], 0, false⟩), (3008, ⟨.li 5 (rt.map flA), 0, false⟩), (3000, ⟨.li 2 (i.1.map apA), 0, false⟩), (0, ⟨.li 2 [.agg [L, .lit (.int .i64 i.2.2)]], 0, true⟩)], 4000, 26⟩ : _ → St)) (fun i => i.2.1) (fun i => (i.1.length + i.2.1 ≤ 2 ∧ ∀ x ∈ i.1, x.files.length ≤ 4) ∧ DcOK L i.2.2) (i0 := ([], a, b)) (⟨⟨by show 0 + a ≤ 2; omega, fun x hx => by cases hx⟩, hd0⟩) (by simp only [go_sem, Int.natCast_add, Nat.reduceAdd, Nat.reduceLT, Nat.reduceLeDiff, Nat.reduceEqDiff, Nat.reduceSub, Nat.reduceMul, Nat.reduceBEq, Nat.reduceBNe, Nat.reducePow, Nat.reduceDiv, Int.reduceLE, Int.reduceLT, Int.reduceToNat, Int.reduceNeg, Int.reduceAdd, Int.reduceSub, Int.reduceEq, reduceIte, reduceCtorEq, UInt8.reduceOfNat, hT, TrC_fls] <;> (try and_intros) <;> (try omega)) fun ⟨l, n, z⟩ hi => ?_
  simp only at hi
  obtain ⟨⟨hi, hia⟩, hd2⟩ := hi
  refine WA.seq ?_
  refine WA.regionK ty_ok hs fun K hK => ?_
  simp only [go_sem, Nat.reduceAdd, Nat.reduceLT, Nat.reduceLeDiff, Nat.reduceEqDiff, Nat.reduceSub, Nat.reduceMul, Nat.reduceBEq, Nat.reduceBNe, Nat.reducePow, Nat.reduceDiv, Int.reduceLE, Int.reduceLT, Int.reduceToNat, Int.reduceNeg, Int.reduceAdd, Int.reduceSub, Int.reduceEq, reduceIte, reduceCtorEq, UInt8.reduceOfNat, true_and]
  first
  | refine hK _ ?_
  | refine And.intro (by first | omega | (simp; done) | (simp; omega) | (simp +contextual; done) | (simp_all; done) | (simp_all; omega)) (hK _ ?_)
  clear hK K
  refine WA.cond rfl (fun h => ?_) (fun h => ?_)
  ·
    with_reducible refine WA.skipN ?_
    repeat first | with_reducible refine WN.t ?_ | with_reducible refine WN.b ?_
    have h6 : 0 < n := by have := of_decide_eq_true h; omega
    clear h
    have hd3 : DcOK L (dflZ L z) := dc_dfl hd2
    have hl3 := dfl_len L z
    have t9 := TrC_aps (l ++ [⟨[160, byt n], dfl L z⟩])
    simp only [byt, List.map_append, List.map_cons, List.map_nil, apA] at t9
    refine WA.seq ?_
    refine WA.block ?_
    refine WA.drawn2 mixed_ ty_ok hs (tbl := [[], [0], [], [2], [2, 3], [], [5], [2, 3, 4, 5, 6], [2, 3, 4, 5, 6, 7], [0, 1, 2, 3, 4, 5, 6, 7, 8], [0, 1, 2, 3, 4, 5, 6, 7, 8, 9], [0, 1, 2, 3, 4, 5, 6, 7, 8, 9, 10]]) (nb := [1, 6, 9, 11]) (hk := [[], [0], [], [], [], [], [], [], [], [], [], []]) (by kernel_rfl) fun K hK => ?_
    simp only [go_sem, Nat.reduceAdd, Nat.reduceLT, Nat.reduceLeDiff, Nat.reduceEqDiff, Nat.reduceSub, Nat.reduceMul, Nat.reduceBEq, Nat.reduceBNe, Nat.reducePow, Nat.reduceDiv, Int.reduceLE, Int.reduceLT, Int.reduceToNat, Int.reduceNeg, Int.reduceAdd, Int.reduceSub, Int.reduceEq, reduceIte, reduceCtorEq, UInt8.reduceOfNat, sgFs, hd2, hT, TrC_fls]
    repeat refine And.intro (by first | omega | assumption | (simp; done) | (simp; omega) | (simp +contextual; done) | (simp_all; done) | (simp_all; omega)) ?_
    with_reducible refine hK _ (WN.mk ?_)
    clear hK K
    repeat first | with_reducible refine WN.t ?_ | with_reducible refine WN.b ?_
    refine WA.norm 4088 fun K hK => ?_
    simp only [go_sem, Nat.reduceAdd, Nat.reduceLT, Nat.reduceLeDiff, Nat.reduceEqDiff, Nat.reduceSub, Nat.reduceMul, Nat.reduceBEq, Nat.reduceBNe, Nat.reducePow, Nat.reduceDiv, Int.reduceLE, Int.reduceLT, Int.reduceToNat, Int.reduceNeg, Int.reduceAdd, Int.reduceSub, Int.reduceEq, reduceIte, reduceCtorEq, UInt8.reduceOfNat, cvM_aps, TrC_fls, Tr_fls]
    first
    | refine hK _ ?_
    | refine And.intro (by first | omega | (simp; done) | (simp; omega) | (simp_all; done) | (simp_all; omega)) (hK _ ?_)
    clear hK K
    refine WA.regionE ty_ok hs fun K hK => ?_
    simp only [go_sem, Nat.reduceAdd, Nat.reduceLT, Nat.reduceLeDiff, Nat.reduceEqDiff, Nat.reduceSub, Nat.reduceMul, Nat.reduceBEq, Nat.reduceBNe, Nat.reducePow, Nat.reduceDiv, Int.reduceLE, Int.reduceLT, Int.reduceToNat, Int.reduceNeg, Int.reduceAdd, Int.reduceSub, Int.reduceEq, reduceIte, reduceCtorEq, UInt8.reduceOfNat, true_and]
    repeat refine And.intro (by first | omega | assumption | (simp; done) | (simp; omega) | (simp +contextual; done) | (simp_all; done) | (simp_all; omega)) ?_
    refine hK _ (roundE hX (fun k => if k = 3000 then 4088 else k) (j := (l ++ [⟨[160, byt n], dfl L z⟩], n - 1, dflZ L z)) (⟨⟨by simp; omega, fun x hx => by
    rcases List.mem_append.1 hx with hx | hx
    · exact hia x hx
    · rw [List.mem_singleton.1 hx]; exact hl3⟩, hd3⟩) (by first | omega | (dsimp only; omega) | (simp; omega)) (by simp only [go_sem, Int.natCast_add, Nat.reduceAdd, Nat.reduceLT, Nat.reduceLeDiff, Nat.reduceEqDiff, Nat.reduceSub, Nat.reduceMul, Nat.reduceBEq, Nat.reduceBNe, Nat.reducePow, Nat.reduceDiv, Int.reduceLE, Int.reduceLT, Int.reduceToNat, Int.reduceNeg, Int.reduceAdd, Int.reduceSub, Int.reduceEq, reduceIte, reduceCtorEq, UInt8.reduceOfNat, hT, List.map_append, List.map_cons, List.map_nil, List.length_append, List.length_cons, List.length_nil, apA, t9, TrC_fls, byt] <;> (try and_intros) <;> (try omega)))

  ·
    with_reducible refine WA.exitX ?_
    repeat first | with_reducible refine WX.b ?_ | with_reducible refine WX.t ?_ | (with_reducible refine WX.n ?hne ?_; case hne => rfl)
    have h6 : n = 0 := by have := of_decide_eq_false h; omega
    refine WA.norm 3016 fun K hK => ?_
    simp only [go_sem, Nat.reduceAdd, Nat.reduceLT, Nat.reduceLeDiff, Nat.reduceEqDiff, Nat.reduceSub, Nat.reduceMul, Nat.reduceBEq, Nat.reduceBNe, Nat.reducePow, Nat.reduceDiv, Int.reduceLE, Int.reduceLT, Int.reduceToNat, Int.reduceNeg, Int.reduceAdd, Int.reduceSub, Int.reduceEq, reduceIte, reduceCtorEq, UInt8.reduceOfNat, TrC_fls, TrC_aps, Tr_fls, Tr_aps]
    first
    | refine hK _ ?_
    | refine And.intro (by first | omega | (simp; done) | (simp; omega) | (simp_all; done) | (simp_all; omega)) (hK _ ?_)
    clear hK K
    refine WA.regionK ty_ok hs fun K hK => ?_
    simp only [go_sem, Nat.reduceAdd, Nat.reduceLT, Nat.reduceLeDiff, Nat.reduceEqDiff, Nat.reduceSub, Nat.reduceMul, Nat.reduceBEq, Nat.reduceBNe, Nat.reducePow, Nat.reduceDiv, Int.reduceLE, Int.reduceLT, Int.reduceToNat, Int.reduceNeg, Int.reduceAdd, Int.reduceSub, Int.reduceEq, reduceIte, reduceCtorEq, UInt8.reduceOfNat, true_and]
    first
    | refine hK _ ?_
    | refine And.intro (by first | omega | (simp; done) | (simp; omega) | (simp +contextual; done) | (simp_all; done) | (simp_all; omega)) (hK _ ?_)
    clear hK K
    refine WA.retE ty_ok (xs := [.agg [.li 5 (rt.map flA), .li 2 (l.map apA)]]) (ls' := [.li 2 [.agg [L, .lit (.int .i64 z)]]]) (rv := [.cell 2 43]) rfl hX (by simp) (fun _ => rfl) (fun _ _ h => ⟨((rt, l), z), ⟨⟨hl, by show l.length ≤ 2; omega, hia⟩, hd2⟩, h⟩) ?_
    simp only [go_sem, Nat.reduceAdd, Nat.reduceLT, Nat.reduceLeDiff, Nat.reduceEqDiff, Nat.reduceSub, Nat.reduceMul, Nat.reduceBEq, Nat.reduceBNe, Nat.reducePow, Nat.reduceDiv, Int.reduceLE, Int.reduceLT, Int.reduceToNat, Int.reduceNeg, Int.reduceAdd, Int.reduceSub, Int.reduceEq, reduceIte, reduceCtorEq, UInt8.reduceOfNat, hT, Tr_fls, Tr_aps]
end Go.Proofs.Ytnjmedihheblaaa
