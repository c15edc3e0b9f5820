import Derived.Test.YtloihfflblgioaaBiL
namespace Go.Proofs.Ytloihfflblgioaa
open Go.RowKit Go.TravelBase Go.TravelAbs
set_option linter.unusedVariables false
set_option linter.unusedSimpArgs false

















/-! ### The dice's templates -/
def sgDd : Sg := fun f args ls =>
  match f, args, ls with
  | 23, [.ptr 0 0 0, .lit (.int .i64 n)], [.li 2 [.agg [L, .lit (.int .i64 z)]]] => some (.lit (.int .i64 (nxI L z n)), [.li 2 [.agg [L, .lit (.int .i64 (nxZ L z))]]], DcOK L z ∧ 1 ≤ n ∧ n ≤ 4611686018427387904)
  | 24, [.ptr 0 0 0, .lit (.int .i64 n)], [.li 2 [.agg [L, .lit (.int .i64 z)]]] => some (.lit (.bool (nxI L z n == n - 1)), [.li 2 [.agg [L, .lit (.int .i64 (nxZ L z))]]], DcOK L z ∧ 1 ≤ n ∧ n ≤ 4611686018427387904)
  | 50, [.ptr 0 0 0, .lit (.int .i64 most)], [.li 2 [.agg [L, .lit (.int .i64 z)]]] => some (.fr (.by_ (dyB L z most)), [.li 2 [.agg [L, .lit (.int .i64 (dyZ L z most))]]], DcOK L z ∧ 0 ≤ most ∧ most ≤ 1000000)
  | _, _, _ => none
theorem sgDd_ok : SgOK Try.prog sgDd := by
  intro f args ls r ls' vc h hvc
  unfold sgDd at h
  split at h <;> first | (simp only [Option.some.injEq, Prod.mk.injEq] at h; obtain ⟨rfl, rfl, rfl⟩ := h) | cases h
  · exact ⟨(fnOK Try.func23 (by decide) rfl), next_s _ _ _ hvc.1 hvc.2.1 hvc.2.2⟩
  · exact ⟨(fnOK Try.func24 (by decide) rfl), one_s _ _ _ hvc.1 hvc.2.1 hvc.2.2⟩
  · exact ⟨(fnOK Try.func50 (by decide) rfl), bytes_s _ _ _ hvc.1 hvc.2.1 hvc.2.2⟩
def MadT (k : Int) (t : Tm) : Prop := valT t = 0 ∧ t.kind = k
theorem val_mk {t : Tm} (h1 : PartT t.kind t.part) (h2 : DayT t) (h3 : RngT t) (h4 : SizT t) : valT t = 0 := by
  unfold valT
  rw [if_neg (by simp [h1]), if_neg (by simp [h2]), if_neg (by simp [h3]), if_neg (by simp [h4])]
set_option maxHeartbeats 1000000 in
theorem dtempl_e (L : AV) (z k : Int) (hd : DcOK L z) (hk : 1 ≤ k ∧ k ≤ 3) : FnE Try.prog 41 [.ptr 0 0 0, .lit (.int .i64 k)] [.li 2 [.agg [L, .lit (.int .i64 z)]]] (I := Tm × Int) (fun i => MadT k i.1 ∧ DcOK L i.2) (fun i => .agg [.lit (.int .i64 i.1.kind), .lit (.int .i64 i.1.part), .lit (.int .i64 i.1.fr), .lit (.int .i64 i.1.to), .lit (.int .i64 i.1.fmt), .lit (.int .i64 i.1.q), .by_ i.1.data]) (fun i => [.li 2 [.agg [L, .lit (.int .i64 i.2)]]]) := by
  have hs := sgDd_ok
  have hT := hd.tr
  have d1 := dc_nx hd
  have d2 := dc_nx d1
  have d3 := dc_nx d2
  have d4 := dc_nx d3
  have d5 : DcOK L (dyZ L (nxZ L (nxZ L (nxZ L (nxZ L z)))) 40) := dc_dy d4
  have d6 := dc_nx d5
  have d7 := dc_nx d6
  have r1 := nx_rng L z 40000 (by omega)
  have r2 := nx_rng L (nxZ L z) 65536 (by omega)
  have r3 := nx_rng L (nxZ L (nxZ L z)) 101 (by omega)
  have r4 := nx_rng L (nxZ L (nxZ L (nxZ L z))) 30000 (by omega)
  have r5 := dyB_len L (nxZ L (nxZ L (nxZ L (nxZ L z)))) 40 (by omega)
  obtain ⟨fr, e1⟩ : ∃ v, nxI L z 40000 = v := ⟨_, rfl⟩
  obtain ⟨fm, e2⟩ : ∃ v, nxI L (nxZ L z) 65536 = v := ⟨_, rfl⟩
  obtain ⟨q, e3⟩ : ∃ v, nxI L (nxZ L (nxZ L z)) 101 = v := ⟨_, rfl⟩
  obtain ⟨dt, e4⟩ : ∃ v, nxI L (nxZ L (nxZ L (nxZ L z))) 30000 = v := ⟨_, rfl⟩
  obtain ⟨bs, e5⟩ : ∃ v, dyB L (nxZ L (nxZ L (nxZ L (nxZ L z)))) 40 = v := ⟨_, rfl⟩
  rw [e1] at r1
  rw [e2] at r2
  rw [e3] at r3
  rw [e4] at r4
  rw [e5] at r5
  refine FnE.of Try.func41 rfl (N := 42) rfl (by simp) (by simp) fun X hX => ?_
  simp only [tmArgs, lentH, Nat.reduceAdd]
  refine WA.regionK ty_ok hs fun K hK => ?_
  simp only [go_sem, Nat.reduceAdd, Nat.reduceLT, Nat.reduceLeDiff, Nat.reduceEqDiff, Nat.reduceSub, Nat.reduceMul, Nat.reduceBEq, Nat.reduceBNe, Nat.reducePow, Nat.reduceDiv, Int.reduceLE, Int.reduceLT, Int.reduceToNat, Int.reduceNeg, Int.reduceAdd, Int.reduceSub, Int.reduceEq, reduceIte, reduceCtorEq, UInt8.reduceOfNat, true_and]
  repeat refine And.intro (by first | omega | assumption | (simp; done) | (simp; omega) | (simp +contextual; done) | (simp_all; done) | (simp_all; omega)) ?_
  refine hK _ ?_
  clear hK K
  refine WA.regionK ty_ok hs fun K hK => ?_
  simp only [go_sem, Nat.reduceAdd, Nat.reduceLT, Nat.reduceLeDiff, Nat.reduceEqDiff, Nat.reduceSub, Nat.reduceMul, Nat.reduceBEq, Nat.reduceBNe, Nat.reducePow, Nat.reduceDiv, Int.reduceLE, Int.reduceLT, Int.reduceToNat, Int.reduceNeg, Int.reduceAdd, Int.reduceSub, Int.reduceEq, reduceIte, reduceCtorEq, UInt8.reduceOfNat, sgDd, hd, d1, d2, d3, hT, e1, e2, e3]
  repeat refine And.intro (by first | omega | assumption | (simp; done) | (simp; omega) | (simp +contextual; done) | (simp_all; done) | (simp_all; omega)) ?_
  refine hK _ ?_
  clear hK K
  refine WA.drawnH mixed_ ty_ok hs (tbl := [[], [0], [], [2], [0, 1, 2, 3], [0, 1, 2, 3, 4], [0, 1, 2, 3, 4, 5]]) (nb := [1, 3, 6]) (hk := [[0], [0], [], [], [], [], []]) (by kernel_rfl) fun K hK => ?_
  simp only [go_sem, Nat.reduceAdd, Nat.reduceLT, Nat.reduceLeDiff, Nat.reduceEqDiff, Nat.reduceSub, Nat.reduceMul, Nat.reduceBEq, Nat.reduceBNe, Nat.reducePow, Nat.reduceDiv, Int.reduceLE, Int.reduceLT, Int.reduceToNat, Int.reduceNeg, Int.reduceAdd, Int.reduceSub, Int.reduceEq, reduceIte, reduceCtorEq, UInt8.reduceOfNat, sgDd, d3, hT, e4]
  repeat refine And.intro (by first | omega | assumption | (simp; done) | (simp; omega) | (simp +contextual; done) | (simp_all; done) | (simp_all; omega)) ?_
  refine hK _ ?_
  clear hK K
  refine WA.regionK ty_ok hs fun K hK => ?_
  simp only [go_sem, Nat.reduceAdd, Nat.reduceLT, Nat.reduceLeDiff, Nat.reduceEqDiff, Nat.reduceSub, Nat.reduceMul, Nat.reduceBEq, Nat.reduceBNe, Nat.reducePow, Nat.reduceDiv, Int.reduceLE, Int.reduceLT, Int.reduceToNat, Int.reduceNeg, Int.reduceAdd, Int.reduceSub, Int.reduceEq, reduceIte, reduceCtorEq, UInt8.reduceOfNat, sgDd, d4, d5, hT, e5]
  repeat refine And.intro (by first | omega | assumption | (simp; done) | (simp; omega) | (simp +contextual; done) | (simp_all; done) | (simp_all; omega)) ?_
  refine hK _ ?_
  clear hK K
  have hb2 : ∀ v, (bs ++ [v]).length = bs.length + 1 := fun v => by simp
  have hfm : RngT ⟨k, 0, fr, fr + dt, fm, q, []⟩ := by unfold RngT; simp only; omega
  have hdy : DayT ⟨k, 0, fr, fr + dt, fm, q, []⟩ := by unfold DayT; simp only; omega
  refine WA.seq ?_
  refine WA.regionK ty_ok hs fun K hK => ?_
  simp only [go_sem, Nat.reduceAdd, Nat.reduceLT, Nat.reduceLeDiff, Nat.reduceEqDiff, Nat.reduceSub, Nat.reduceMul, Nat.reduceBEq, Nat.reduceBNe, Nat.reducePow, Nat.reduceDiv, Int.reduceLE, Int.reduceLT, Int.reduceToNat, Int.reduceNeg, Int.reduceAdd, Int.reduceSub, Int.reduceEq, reduceIte, reduceCtorEq, UInt8.reduceOfNat, true_and]
  repeat refine And.intro (by first | omega | assumption | (simp; done) | (simp; omega) | (simp +contextual; done) | (simp_all; done) | (simp_all; omega)) ?_
  refine hK _ ?_
  clear hK K
  refine WA.block ?_
  refine WA.regionK ty_ok hs fun K hK => ?_
  simp only [go_sem, Nat.reduceAdd, Nat.reduceLT, Nat.reduceLeDiff, Nat.reduceEqDiff, Nat.reduceSub, Nat.reduceMul, Nat.reduceBEq, Nat.reduceBNe, Nat.reducePow, Nat.reduceDiv, Int.reduceLE, Int.reduceLT, Int.reduceToNat, Int.reduceNeg, Int.reduceAdd, Int.reduceSub, Int.reduceEq, reduceIte, reduceCtorEq, UInt8.reduceOfNat, true_and]
  repeat refine And.intro (by first | omega | assumption | (simp; done) | (simp; omega) | (simp +contextual; done) | (simp_all; done) | (simp_all; omega)) ?_
  refine hK _ ?_
  clear hK K
  refine WA.cond rfl (fun h => ?_) (fun h => ?_)
  ·
    have h : k = 2 := by first | (simp only [Bool.and_eq_true, Bool.or_eq_true, Bool.not_eq_true', decide_eq_true_eq, decide_eq_false_iff_not, beq_iff_eq, bne_iff_ne, ne_eq, Bool.not_eq_eq_eq_not, Bool.not_true, Bool.not_false, beq_eq_false_iff_ne, bne_eq_false_iff_eq, Bool.and_eq_false_imp, Bool.or_eq_false_iff, Bool.cond_false_right, Bool.cond_true_left, Bool.cond_false_left, Bool.cond_true_right, gt_iff_lt, ge_iff_le, true_and] at h; first | exact h | omega) | omega | simpa using h
    have r6 := nx_rng L (nxZ L (dyZ L (nxZ L (nxZ L (nxZ L (nxZ L z)))) 40)) 10 (by omega)
    obtain ⟨pt, e6⟩ : ∃ v, nxI L (nxZ L (dyZ L (nxZ L (nxZ L (nxZ L (nxZ L z)))) 40)) 10 = v := ⟨_, rfl⟩
    rw [e6] at r6
    refine WA.regionE ty_ok hs fun K hK => ?_
    simp only [go_sem, Nat.reduceAdd, Nat.reduceLT, Nat.reduceLeDiff, Nat.reduceEqDiff, Nat.reduceSub, Nat.reduceMul, Nat.reduceBEq, Nat.reduceBNe, Nat.reducePow, Nat.reduceDiv, Int.reduceLE, Int.reduceLT, Int.reduceToNat, Int.reduceNeg, Int.reduceAdd, Int.reduceSub, Int.reduceEq, reduceIte, reduceCtorEq, UInt8.reduceOfNat, sgDd, d6, hT, e6]
    repeat refine And.intro (by first | omega | assumption | (simp; done) | (simp; omega) | (simp +contextual; done) | (simp_all; done) | (simp_all; omega)) ?_
    with_reducible refine hK _ (WN.mk ?_)
    clear hK K
    repeat first | with_reducible refine WN.t ?_ | with_reducible refine WN.b ?_
    refine WA.regionK ty_ok hs fun K hK => ?_
    simp only [go_sem, Nat.reduceAdd, Nat.reduceLT, Nat.reduceLeDiff, Nat.reduceEqDiff, Nat.reduceSub, Nat.reduceMul, Nat.reduceBEq, Nat.reduceBNe, Nat.reducePow, Nat.reduceDiv, Int.reduceLE, Int.reduceLT, Int.reduceToNat, Int.reduceNeg, Int.reduceAdd, Int.reduceSub, Int.reduceEq, reduceIte, reduceCtorEq, UInt8.reduceOfNat, true_and]
    repeat refine And.intro (by first | omega | assumption | (simp; done) | (simp; omega) | (simp +contextual; done) | (simp_all; done) | (simp_all; omega)) ?_
    refine hK _ ?_
    clear hK K
    refine WA.norm 2000 fun K hK => ?_
    simp only [go_sem, Nat.reduceAdd, Nat.reduceLT, Nat.reduceLeDiff, Nat.reduceEqDiff, Nat.reduceSub, Nat.reduceMul, Nat.reduceBEq, Nat.reduceBNe, Nat.reducePow, Nat.reduceDiv, Int.reduceLE, Int.reduceLT, Int.reduceToNat, Int.reduceNeg, Int.reduceAdd, Int.reduceSub, Int.reduceEq, reduceIte, reduceCtorEq, UInt8.reduceOfNat, true_and]
    repeat refine And.intro (by first | omega | assumption | (simp; done) | (simp; omega) | (simp +contextual; done) | (simp_all; done) | (simp_all; omega)) ?_
    refine hK _ ?_
    clear hK K
    refine WA.retE ty_ok (xs := [.agg [.lit (.int .i64 (⟨k, 1 + pt, fr, fr + dt, fm, q, bs ++ [byt (nxI L (dyZ L (nxZ L (nxZ L (nxZ L (nxZ L z)))) 40) 256)]⟩ : Tm).kind), .lit (.int .i64 (⟨k, 1 + pt, fr, fr + dt, fm, q, bs ++ [byt (nxI L (dyZ L (nxZ L (nxZ L (nxZ L (nxZ L z)))) 40) 256)]⟩ : Tm).part), .lit (.int .i64 (⟨k, 1 + pt, fr, fr + dt, fm, q, bs ++ [byt (nxI L (dyZ L (nxZ L (nxZ L (nxZ L (nxZ L z)))) 40) 256)]⟩ : Tm).fr), .lit (.int .i64 (⟨k, 1 + pt, fr, fr + dt, fm, q, bs ++ [byt (nxI L (dyZ L (nxZ L (nxZ L (nxZ L (nxZ L z)))) 40) 256)]⟩ : Tm).to), .lit (.int .i64 (⟨k, 1 + pt, fr, fr + dt, fm, q, bs ++ [byt (nxI L (dyZ L (nxZ L (nxZ L (nxZ L (nxZ L z)))) 40) 256)]⟩ : Tm).fmt), .lit (.int .i64 (⟨k, 1 + pt, fr, fr + dt, fm, q, bs ++ [byt (nxI L (dyZ L (nxZ L (nxZ L (nxZ L (nxZ L z)))) 40) 256)]⟩ : Tm).q), .by_ (⟨k, 1 + pt, fr, fr + dt, fm, q, bs ++ [byt (nxI L (dyZ L (nxZ L (nxZ L (nxZ L (nxZ L z)))) 40) 256)]⟩ : Tm).data]]) (ls' := [.li 2 [.agg [L, .lit (.int .i64 (nxZ L (nxZ L (dyZ L (nxZ L (nxZ L (nxZ L (nxZ L z)))) 40))))]]]) (rv := [.cell 4 37]) rfl hX (by simp) (fun _ => rfl) (fun _ _ h => ⟨(⟨k, 1 + pt, fr, fr + dt, fm, q, bs ++ [byt (nxI L (dyZ L (nxZ L (nxZ L (nxZ L (nxZ L z)))) 40) 256)]⟩, nxZ L (nxZ L (dyZ L (nxZ L (nxZ L (nxZ L (nxZ L z)))) 40))), ⟨⟨val_mk (by unfold PartT; simp only; omega) hdy hfm ⟨by simp, by simp only [hb2]; omega⟩, rfl⟩, d7⟩, h⟩) ?_
    simp only [go_sem, Nat.reduceAdd, Nat.reduceLT, Nat.reduceLeDiff, Nat.reduceEqDiff, Nat.reduceSub, Nat.reduceMul, Nat.reduceBEq, Nat.reduceBNe, Nat.reducePow, Nat.reduceDiv, Int.reduceLE, Int.reduceLT, Int.reduceToNat, Int.reduceNeg, Int.reduceAdd, Int.reduceSub, Int.reduceEq, reduceIte, reduceCtorEq, UInt8.reduceOfNat, hT, bytF, hb2, TrC.by_]
    all_goals exact List.take_of_length_le (by simp)
  have h : ¬ k = 2 := by first | (simp only [Bool.and_eq_true, Bool.or_eq_true, Bool.not_eq_true', decide_eq_true_eq, decide_eq_false_iff_not, beq_iff_eq, bne_iff_ne, ne_eq, Bool.not_eq_eq_eq_not, Bool.not_true, Bool.not_false, beq_eq_false_iff_ne, bne_eq_false_iff_eq, Bool.and_eq_false_imp, Bool.or_eq_false_iff, Bool.cond_false_right, Bool.cond_true_left, Bool.cond_false_left, Bool.cond_true_right, gt_iff_lt, ge_iff_le, true_and] at h; first | exact h | omega) | omega | simpa using h
  refine WA.regionK ty_ok hs fun K hK => ?_
  simp only [go_sem, Nat.reduceAdd, Nat.reduceLT, Nat.reduceLeDiff, Nat.reduceEqDiff, Nat.reduceSub, Nat.reduceMul, Nat.reduceBEq, Nat.reduceBNe, Nat.reducePow, Nat.reduceDiv, Int.reduceLE, Int.reduceLT, Int.reduceToNat, Int.reduceNeg, Int.reduceAdd, Int.reduceSub, Int.reduceEq, reduceIte, reduceCtorEq, UInt8.reduceOfNat, true_and]
  repeat refine And.intro (by first | omega | assumption | (simp; done) | (simp; omega) | (simp +contextual; done) | (simp_all; done) | (simp_all; omega)) ?_
  refine hK _ ?_
  clear hK K
  refine WA.cond rfl (fun h2 => ?_) (fun h2 => ?_)
  ·
    have h2 : k = 3 := by first | (simp only [Bool.and_eq_true, Bool.or_eq_true, Bool.not_eq_true', decide_eq_true_eq, decide_eq_false_iff_not, beq_iff_eq, bne_iff_ne, ne_eq, Bool.not_eq_eq_eq_not, Bool.not_true, Bool.not_false, beq_eq_false_iff_ne, bne_eq_false_iff_eq, Bool.and_eq_false_imp, Bool.or_eq_false_iff, Bool.cond_false_right, Bool.cond_true_left, Bool.cond_false_left, Bool.cond_true_right, gt_iff_lt, ge_iff_le, true_and] at h2; first | exact h2 | omega) | omega | simpa using h2
    have r6 := nx_rng L (nxZ L (dyZ L (nxZ L (nxZ L (nxZ L (nxZ L z)))) 40)) 2 (by omega)
    obtain ⟨pt, e6⟩ : ∃ v, nxI L (nxZ L (dyZ L (nxZ L (nxZ L (nxZ L (nxZ L z)))) 40)) 2 = v := ⟨_, rfl⟩
    rw [e6] at r6
    refine WA.regionE ty_ok hs fun K hK => ?_
    simp only [go_sem, Nat.reduceAdd, Nat.reduceLT, Nat.reduceLeDiff, Nat.reduceEqDiff, Nat.reduceSub, Nat.reduceMul, Nat.reduceBEq, Nat.reduceBNe, Nat.reducePow, Nat.reduceDiv, Int.reduceLE, Int.reduceLT, Int.reduceToNat, Int.reduceNeg, Int.reduceAdd, Int.reduceSub, Int.reduceEq, reduceIte, reduceCtorEq, UInt8.reduceOfNat, sgDd, d6, hT, e6]
    repeat refine And.intro (by first | omega | assumption | (simp; done) | (simp; omega) | (simp +contextual; done) | (simp_all; done) | (simp_all; omega)) ?_
    with_reducible refine hK _ (WN.mk ?_)
    clear hK K
    repeat first | with_reducible refine WN.t ?_ | with_reducible refine WN.b ?_
    refine WA.regionK ty_ok hs fun K hK => ?_
    simp only [go_sem, Nat.reduceAdd, Nat.reduceLT, Nat.reduceLeDiff, Nat.reduceEqDiff, Nat.reduceSub, Nat.reduceMul, Nat.reduceBEq, Nat.reduceBNe, Nat.reducePow, Nat.reduceDiv, Int.reduceLE, Int.reduceLT, Int.reduceToNat, Int.reduceNeg, Int.reduceAdd, Int.reduceSub, Int.reduceEq, reduceIte, reduceCtorEq, UInt8.reduceOfNat, true_and]
    repeat refine And.intro (by first | omega | assumption | (simp; done) | (simp; omega) | (simp +contextual; done) | (simp_all; done) | (simp_all; omega)) ?_
    refine hK _ ?_
    clear hK K
    refine WA.norm 2000 fun K hK => ?_
    simp only [go_sem, Nat.reduceAdd, Nat.reduceLT, Nat.reduceLeDiff, Nat.reduceEqDiff, Nat.reduceSub, Nat.reduceMul, Nat.reduceBEq, Nat.reduceBNe, Nat.reducePow, Nat.reduceDiv, Int.reduceLE, Int.reduceLT, Int.reduceToNat, Int.reduceNeg, Int.reduceAdd, Int.reduceSub, Int.reduceEq, reduceIte, reduceCtorEq, UInt8.reduceOfNat, true_and]
    repeat refine And.intro (by first | omega | assumption | (simp; done) | (simp; omega) | (simp +contextual; done) | (simp_all; done) | (simp_all; omega)) ?_
    refine hK _ ?_
    clear hK K
    refine WA.retE ty_ok (xs := [.agg [.lit (.int .i64 (⟨k, 1 + pt, fr, fr + dt, fm, q, bs ++ [byt (nxI L (dyZ L (nxZ L (nxZ L (nxZ L (nxZ L z)))) 40) 256)]⟩ : Tm).kind), .lit (.int .i64 (⟨k, 1 + pt, fr, fr + dt, fm, q, bs ++ [byt (nxI L (dyZ L (nxZ L (nxZ L (nxZ L (nxZ L z)))) 40) 256)]⟩ : Tm).part), .lit (.int .i64 (⟨k, 1 + pt, fr, fr + dt, fm, q, bs ++ [byt (nxI L (dyZ L (nxZ L (nxZ L (nxZ L (nxZ L z)))) 40) 256)]⟩ : Tm).fr), .lit (.int .i64 (⟨k, 1 + pt, fr, fr + dt, fm, q, bs ++ [byt (nxI L (dyZ L (nxZ L (nxZ L (nxZ L (nxZ L z)))) 40) 256)]⟩ : Tm).to), .lit (.int .i64 (⟨k, 1 + pt, fr, fr + dt, fm, q, bs ++ [byt (nxI L (dyZ L (nxZ L (nxZ L (nxZ L (nxZ L z)))) 40) 256)]⟩ : Tm).fmt), .lit (.int .i64 (⟨k, 1 + pt, fr, fr + dt, fm, q, bs ++ [byt (nxI L (dyZ L (nxZ L (nxZ L (nxZ L (nxZ L z)))) 40) 256)]⟩ : Tm).q), .by_ (⟨k, 1 + pt, fr, fr + dt, fm, q, bs ++ [byt (nxI L (dyZ L (nxZ L (nxZ L (nxZ L (nxZ L z)))) 40) 256)]⟩ : Tm).data]]) (ls' := [.li 2 [.agg [L, .lit (.int .i64 (nxZ L (nxZ L (dyZ L (nxZ L (nxZ L (nxZ L (nxZ L z)))) 40))))]]]) (rv := [.cell 4 37]) rfl hX (by simp) (fun _ => rfl) (fun _ _ h => ⟨(⟨k, 1 + pt, fr, fr + dt, fm, q, bs ++ [byt (nxI L (dyZ L (nxZ L (nxZ L (nxZ L (nxZ L z)))) 40) 256)]⟩, nxZ L (nxZ L (dyZ L (nxZ L (nxZ L (nxZ L (nxZ L z)))) 40))), ⟨⟨val_mk (by unfold PartT; simp only; omega) hdy hfm ⟨by simp, by simp only [hb2]; omega⟩, rfl⟩, d7⟩, h⟩) ?_
    simp only [go_sem, Nat.reduceAdd, Nat.reduceLT, Nat.reduceLeDiff, Nat.reduceEqDiff, Nat.reduceSub, Nat.reduceMul, Nat.reduceBEq, Nat.reduceBNe, Nat.reducePow, Nat.reduceDiv, Int.reduceLE, Int.reduceLT, Int.reduceToNat, Int.reduceNeg, Int.reduceAdd, Int.reduceSub, Int.reduceEq, reduceIte, reduceCtorEq, UInt8.reduceOfNat, hT, bytF, hb2, TrC.by_]
    all_goals exact List.take_of_length_le (by simp)
  ·
    have h2 : ¬ k = 3 := by first | (simp only [Bool.and_eq_true, Bool.or_eq_true, Bool.not_eq_true', decide_eq_true_eq, decide_eq_false_iff_not, beq_iff_eq, bne_iff_ne, ne_eq, Bool.not_eq_eq_eq_not, Bool.not_true, Bool.not_false, beq_eq_false_iff_ne, bne_eq_false_iff_eq, Bool.and_eq_false_imp, Bool.or_eq_false_iff, Bool.cond_false_right, Bool.cond_true_left, Bool.cond_false_left, Bool.cond_true_right, gt_iff_lt, ge_iff_le, true_and] at h2; first | exact h2 | omega) | omega | simpa using h2
    have hpt : PartT k 0 := .inl ⟨by omega, rfl⟩
    with_reducible refine WA.skipN ?_
    repeat first | with_reducible refine WN.t ?_ | with_reducible refine WN.b ?_
    refine WA.regionK ty_ok hs fun K hK => ?_
    simp only [go_sem, Nat.reduceAdd, Nat.reduceLT, Nat.reduceLeDiff, Nat.reduceEqDiff, Nat.reduceSub, Nat.reduceMul, Nat.reduceBEq, Nat.reduceBNe, Nat.reducePow, Nat.reduceDiv, Int.reduceLE, Int.reduceLT, Int.reduceToNat, Int.reduceNeg, Int.reduceAdd, Int.reduceSub, Int.reduceEq, reduceIte, reduceCtorEq, UInt8.reduceOfNat, true_and]
    repeat refine And.intro (by first | omega | assumption | (simp; done) | (simp; omega) | (simp +contextual; done) | (simp_all; done) | (simp_all; omega)) ?_
    refine hK _ ?_
    clear hK K
    refine WA.norm 2000 fun K hK => ?_
    simp only [go_sem, Nat.reduceAdd, Nat.reduceLT, Nat.reduceLeDiff, Nat.reduceEqDiff, Nat.reduceSub, Nat.reduceMul, Nat.reduceBEq, Nat.reduceBNe, Nat.reducePow, Nat.reduceDiv, Int.reduceLE, Int.reduceLT, Int.reduceToNat, Int.reduceNeg, Int.reduceAdd, Int.reduceSub, Int.reduceEq, reduceIte, reduceCtorEq, UInt8.reduceOfNat, true_and]
    repeat refine And.intro (by first | omega | assumption | (simp; done) | (simp; omega) | (simp +contextual; done) | (simp_all; done) | (simp_all; omega)) ?_
    refine hK _ ?_
    clear hK K
    refine WA.retE ty_ok (xs := [.agg [.lit (.int .i64 (⟨k, 0, fr, fr + dt, fm, q, bs ++ [byt (nxI L (dyZ L (nxZ L (nxZ L (nxZ L (nxZ L z)))) 40) 256)]⟩ : Tm).kind), .lit (.int .i64 (⟨k, 0, fr, fr + dt, fm, q, bs ++ [byt (nxI L (dyZ L (nxZ L (nxZ L (nxZ L (nxZ L z)))) 40) 256)]⟩ : Tm).part), .lit (.int .i64 (⟨k, 0, fr, fr + dt, fm, q, bs ++ [byt (nxI L (dyZ L (nxZ L (nxZ L (nxZ L (nxZ L z)))) 40) 256)]⟩ : Tm).fr), .lit (.int .i64 (⟨k, 0, fr, fr + dt, fm, q, bs ++ [byt (nxI L (dyZ L (nxZ L (nxZ L (nxZ L (nxZ L z)))) 40) 256)]⟩ : Tm).to), .lit (.int .i64 (⟨k, 0, fr, fr + dt, fm, q, bs ++ [byt (nxI L (dyZ L (nxZ L (nxZ L (nxZ L (nxZ L z)))) 40) 256)]⟩ : Tm).fmt), .lit (.int .i64 (⟨k, 0, fr, fr + dt, fm, q, bs ++ [byt (nxI L (dyZ L (nxZ L (nxZ L (nxZ L (nxZ L z)))) 40) 256)]⟩ : Tm).q), .by_ (⟨k, 0, fr, fr + dt, fm, q, bs ++ [byt (nxI L (dyZ L (nxZ L (nxZ L (nxZ L (nxZ L z)))) 40) 256)]⟩ : Tm).data]]) (ls' := [.li 2 [.agg [L, .lit (.int .i64 (nxZ L (dyZ L (nxZ L (nxZ L (nxZ L (nxZ L z)))) 40)))]]]) (rv := [.cell 4 37]) rfl hX (by simp) (fun _ => rfl) (fun _ _ h => ⟨(⟨k, 0, fr, fr + dt, fm, q, bs ++ [byt (nxI L (dyZ L (nxZ L (nxZ L (nxZ L (nxZ L z)))) 40) 256)]⟩, nxZ L (dyZ L (nxZ L (nxZ L (nxZ L (nxZ L z)))) 40)), ⟨⟨val_mk hpt hdy hfm ⟨by simp, by simp only [hb2]; omega⟩, rfl⟩, d6⟩, h⟩) ?_
    simp only [go_sem, Nat.reduceAdd, Nat.reduceLT, Nat.reduceLeDiff, Nat.reduceEqDiff, Nat.reduceSub, Nat.reduceMul, Nat.reduceBEq, Nat.reduceBNe, Nat.reducePow, Nat.reduceDiv, Int.reduceLE, Int.reduceLT, Int.reduceToNat, Int.reduceNeg, Int.reduceAdd, Int.reduceSub, Int.reduceEq, reduceIte, reduceCtorEq, UInt8.reduceOfNat, hT, bytF, hb2, TrC.by_]
    all_goals exact List.take_of_length_le (by simp)
def stTe : Sg2 := fun f args ls =>
  match f, args, ls with
  | 41, [.ptr 0 0 0, .lit (.int .i64 k)], [.li 2 [.agg [L, .lit (.int .i64 z)]]] => some ⟨Tm × Int, fun i => MadT k i.1 ∧ DcOK L i.2, fun i => .agg [.lit (.int .i64 i.1.kind), .lit (.int .i64 i.1.part), .lit (.int .i64 i.1.fr), .lit (.int .i64 i.1.to), .lit (.int .i64 i.1.fmt), .lit (.int .i64 i.1.q), .by_ i.1.data], fun i => [.li 2 [.agg [L, .lit (.int .i64 i.2)]]], DcOK L z ∧ 1 ≤ k ∧ k ≤ 3⟩
  | _, _, _ => none
theorem stTe_ok : Sg2OK Try.prog stTe := by
  intro f args ls R h hvc
  unfold stTe at h
  split at h <;> first | (simp only [Option.some.injEq] at h; subst h) | cases h
  exact ⟨(fnOK Try.func41 (by decide) rfl), dtempl_e _ _ _ hvc.1 hvc.2⟩
theorem dtempls_e (L : AV) (z k : Int) (hd : DcOK L z) (hk : 1 ≤ k ∧ k ≤ 3) : FnE Try.prog 22 [.ptr 0 0 0, .lit (.int .i64 k)] [.li 2 [.agg [L, .lit (.int .i64 z)]]] (I := List Tm × Int) (fun i => ((1 ≤ i.1.length ∧ i.1.length ≤ 3) ∧ ∀ t ∈ i.1, MadT k t) ∧ DcOK L i.2) (fun i => .fr (.li 7 (i.1.map tmA))) (fun i => [.li 2 [.agg [L, .lit (.int .i64 i.2)]]]) := by
  have hs := sgDd_ok
  have ht := stTe_ok
  have hT := hd.tr
  have r1 := nx_rng L z 3 (by omega)
  obtain ⟨a, e1⟩ : ∃ v, nxI L z 3 = v := ⟨_, rfl⟩
  rw [e1] at r1
  obtain ⟨a, rfl⟩ := Int.eq_ofNat_of_zero_le r1.1
  have d1 := dc_nx hd
  obtain ⟨z1, hz1⟩ : ∃ v, nxZ L z = v := ⟨_, rfl⟩
  rw [hz1] at d1
  have ea : (1 : Int) + (a : Nat) = ((a + 1 : Nat) : Int) := by omega
  refine FnE.of Try.func22 rfl (N := 21) rfl (by simp) (by simp) fun X hX => ?_
  simp only [tmArgs, lentH, Nat.reduceAdd]
  refine WA.regionK ty_ok hs fun K hK => ?_
  simp only [go_sem, Nat.reduceAdd, Nat.reduceLT, Nat.reduceLeDiff, Nat.reduceEqDiff, Nat.reduceSub, Nat.reduceMul, Nat.reduceBEq, Nat.reduceBNe, Nat.reducePow, Nat.reduceDiv, Int.reduceLE, Int.reduceLT, Int.reduceToNat, Int.reduceNeg, Int.reduceAdd, Int.reduceSub, Int.reduceEq, reduceIte, reduceCtorEq, UInt8.reduceOfNat, true_and]
  repeat refine And.intro (by first | omega | assumption | (simp; done) | (simp; omega) | (simp +contextual; done) | (simp_all; done) | (simp_all; omega)) ?_
  refine hK _ ?_
  clear hK K
  refine WA.regionK ty_ok hs fun K hK => ?_
  simp only [go_sem, Nat.reduceAdd, Nat.reduceLT, Nat.reduceLeDiff, Nat.reduceEqDiff, Nat.reduceSub, Nat.reduceMul, Nat.reduceBEq, Nat.reduceBNe, Nat.reducePow, Nat.reduceDiv, Int.reduceLE, Int.reduceLT, Int.reduceToNat, Int.reduceNeg, Int.reduceAdd, Int.reduceSub, Int.reduceEq, reduceIte, reduceCtorEq, UInt8.reduceOfNat, true_and]
  repeat refine And.intro (by first | omega | assumption | (simp; done) | (simp; omega) | (simp +contextual; done) | (simp_all; done) | (simp_all; omega)) ?_
  refine hK _ ?_
  clear hK K
  refine WA.own0 5 (.li 7 []) rfl rfl ?_
  refine WA.seq ?_
  refine WA.regionK ty_ok hs fun K hK => ?_
  simp only [go_sem, Nat.reduceAdd, Nat.reduceLT, Nat.reduceLeDiff, Nat.reduceEqDiff, Nat.reduceSub, Nat.reduceMul, Nat.reduceBEq, Nat.reduceBNe, Nat.reducePow, Nat.reduceDiv, Int.reduceLE, Int.reduceLT, Int.reduceToNat, Int.reduceNeg, Int.reduceAdd, Int.reduceSub, Int.reduceEq, reduceIte, reduceCtorEq, UInt8.reduceOfNat, sgDd, hd, hT, e1, hz1, ea]
  repeat refine And.intro (by first | omega | assumption | (simp; done) | (simp; omega) | (simp +contextual; done) | (simp_all; done) | (simp_all; omega)) ?_
  refine hK _ ?_
  clear hK K
  refine WA.block ?_
  refine WA.loopW hX (fun k => if k = 3000 then 2016 else k) ((fun (i : List Tm × Nat × Int) => ⟨[(0, .ptr 0 0 0), (1, .lit (.int .i64 k)), (5, .sl 3000 7 0 i.1.length), (6, .lit (.int .i64 (i.2.1 : Nat)))], [(3000, ⟨.li 7 (i.1.map tmA), 0, false⟩), (0, ⟨.li 2 [.agg [L, .lit (.int .i64 i.2.2)]], 0, true⟩)], 4000, 21⟩ : _ → St)) (fun i => i.2.1) (fun i => ((1 ≤ i.1.length + i.2.1 ∧ i.1.length + i.2.1 ≤ 3) ∧ ∀ t ∈ i.1, MadT k t) ∧ DcOK L i.2.2) (i0 := ([], a + 1, z1)) (⟨⟨by simp; omega, fun t ht => by cases ht⟩, d1⟩) (by simp only [go_sem, Int.natCast_add, Nat.reduceAdd, Nat.reduceLT, Nat.reduceLeDiff, Nat.reduceEqDiff, Nat.reduceSub, Nat.reduceMul, Nat.reduceBEq, Nat.reduceBNe, Nat.reducePow, Nat.reduceDiv, Int.reduceLE, Int.reduceLT, Int.reduceToNat, Int.reduceNeg, Int.reduceAdd, Int.reduceSub, Int.reduceEq, reduceIte, reduceCtorEq, UInt8.reduceOfNat, hT, TrC_tms, true_or, List.map_nil, List.length_nil] <;> (try and_intros) <;> (try omega)) fun ⟨l, n, z2⟩ hi => ?_
  simp only at hi
  obtain ⟨⟨hn, hm⟩, d2⟩ := hi
  refine WA.seq ?_
  refine WA.regionK ty_ok hs fun K hK => ?_
  simp only [go_sem, Nat.reduceAdd, Nat.reduceLT, Nat.reduceLeDiff, Nat.reduceEqDiff, Nat.reduceSub, Nat.reduceMul, Nat.reduceBEq, Nat.reduceBNe, Nat.reducePow, Nat.reduceDiv, Int.reduceLE, Int.reduceLT, Int.reduceToNat, Int.reduceNeg, Int.reduceAdd, Int.reduceSub, Int.reduceEq, reduceIte, reduceCtorEq, UInt8.reduceOfNat, true_and]
  repeat refine And.intro (by first | omega | assumption | (simp; done) | (simp; omega) | (simp +contextual; done) | (simp_all; done) | (simp_all; omega)) ?_
  refine hK _ ?_
  clear hK K
  refine WA.cond rfl (fun h => ?_) (fun h => ?_)
  ·
    with_reducible refine WA.skipN ?_
    repeat first | with_reducible refine WN.t ?_ | with_reducible refine WN.b ?_
    have h6 : 0 < n := by have := of_decide_eq_true h; omega
    clear h
    refine WA.seq ?_
    refine WA.block ?_
    refine WA.regQE ty_ok hs ht fun K hK => ?_
    simp only [go_sem, Nat.reduceAdd, Nat.reduceLT, Nat.reduceLeDiff, Nat.reduceEqDiff, Nat.reduceSub, Nat.reduceMul, Nat.reduceBEq, Nat.reduceBNe, Nat.reducePow, Nat.reduceDiv, Int.reduceLE, Int.reduceLT, Int.reduceToNat, Int.reduceNeg, Int.reduceAdd, Int.reduceSub, Int.reduceEq, reduceIte, reduceCtorEq, UInt8.reduceOfNat, sgDd, stTe, d2, hT, hk, List.length_map]
    repeat refine And.intro (by first | omega | assumption | (simp; done) | (simp; omega) | (simp +contextual; done) | (simp_all; done) | (simp_all; omega)) ?_
    rintro ⟨t, z3⟩ ⟨hmt, d3⟩
    try dsimp only at hmt d3
    try dsimp only
    repeat refine And.intro (by first | omega | assumption | (simp; done) | (simp; omega) | (simp +contextual; done) | (simp_all; done) | (simp_all; omega)) ?_
    with_reducible refine hK _ (WN.mk ?_)
    clear hK K
    repeat first | with_reducible refine WN.t ?_ | with_reducible refine WN.b ?_
    refine WA.sb 4056 (xs' := (l ++ [t]).map tmA) rfl (WkL.of_eq (tm_app _ _)) ?_
    refine WA.regionE ty_ok hs fun K hK => ?_
    simp only [go_sem, Nat.reduceAdd, Nat.reduceLT, Nat.reduceLeDiff, Nat.reduceEqDiff, Nat.reduceSub, Nat.reduceMul, Nat.reduceBEq, Nat.reduceBNe, Nat.reducePow, Nat.reduceDiv, Int.reduceLE, Int.reduceLT, Int.reduceToNat, Int.reduceNeg, Int.reduceAdd, Int.reduceSub, Int.reduceEq, reduceIte, reduceCtorEq, UInt8.reduceOfNat, true_and]
    repeat refine And.intro (by first | omega | assumption | (simp; done) | (simp; omega) | (simp +contextual; done) | (simp_all; done) | (simp_all; omega)) ?_
    refine hK _ (roundE hX (fun k => if k = 3000 then 4056 else k) (j := (l ++ [t], n - 1, z3)) (⟨⟨by simp; omega, fun x hx => by rcases List.mem_append.1 hx with hx | hx; exact hm x hx; rw [List.mem_singleton.1 hx]; exact hmt⟩, d3⟩) (by first | omega | (dsimp only; omega) | (simp; omega)) (by simp only [go_sem, Int.natCast_add, Nat.reduceAdd, Nat.reduceLT, Nat.reduceLeDiff, Nat.reduceEqDiff, Nat.reduceSub, Nat.reduceMul, Nat.reduceBEq, Nat.reduceBNe, Nat.reducePow, Nat.reduceDiv, Int.reduceLE, Int.reduceLT, Int.reduceToNat, Int.reduceNeg, Int.reduceAdd, Int.reduceSub, Int.reduceEq, reduceIte, reduceCtorEq, UInt8.reduceOfNat, hT, TrC_tms, true_or, List.length_append, List.length_cons, List.length_nil] <;> (try and_intros) <;> (try omega)))
  ·
    have h6 : n = 0 := by have := of_decide_eq_false h; omega
    subst h6
    with_reducible refine WA.exitX ?_
    repeat first | with_reducible refine WX.b ?_ | with_reducible refine WX.t ?_ | (with_reducible refine WX.n ?hne ?_; case hne => rfl)
    refine WA.regionK ty_ok hs fun K hK => ?_
    simp only [go_sem, Nat.reduceAdd, Nat.reduceLT, Nat.reduceLeDiff, Nat.reduceEqDiff, Nat.reduceSub, Nat.reduceMul, Nat.reduceBEq, Nat.reduceBNe, Nat.reducePow, Nat.reduceDiv, Int.reduceLE, Int.reduceLT, Int.reduceToNat, Int.reduceNeg, Int.reduceAdd, Int.reduceSub, Int.reduceEq, reduceIte, reduceCtorEq, UInt8.reduceOfNat, true_and]
    repeat refine And.intro (by first | omega | assumption | (simp; done) | (simp; omega) | (simp +contextual; done) | (simp_all; done) | (simp_all; omega)) ?_
    refine hK _ ?_
    clear hK K
    refine WA.retE ty_ok (xs := [.fr (.li 7 (l.map tmA))]) (ls' := [.li 2 [.agg [L, .lit (.int .i64 z2)]]]) (rv := [.tmp 4]) rfl hX (by simp) (fun _ => rfl) (fun _ _ h => ⟨(l, z2), ⟨⟨⟨by simp only; omega, by simp only; omega⟩, hm⟩, d2⟩, h⟩) ?_
    simp only [go_sem, Nat.reduceAdd, Nat.reduceLT, Nat.reduceLeDiff, Nat.reduceEqDiff, Nat.reduceSub, Nat.reduceMul, Nat.reduceBEq, Nat.reduceBNe, Nat.reducePow, Nat.reduceDiv, Int.reduceLE, Int.reduceLT, Int.reduceToNat, Int.reduceNeg, Int.reduceAdd, Int.reduceSub, Int.reduceEq, reduceIte, reduceCtorEq, UInt8.reduceOfNat, hT, TrC_tms, List.length_map]
end Go.Proofs.Ytloihfflblgioaa
