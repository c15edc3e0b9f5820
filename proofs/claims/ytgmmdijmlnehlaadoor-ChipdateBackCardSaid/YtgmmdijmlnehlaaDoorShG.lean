import Derived.Test.YtgmmdijmlnehlaaDoorShF
namespace Go.Proofs.YtgmmdijmlnehlaaDoor
open Go.RowKit Go.TravelBase Go.TravelAbs
set_option linter.unusedVariables false
set_option linter.unusedSimpArgs false



















/-! ### Trust -/
def R1 : List UInt8 := [82, 79, 79, 84, 49]
def R2 : List UInt8 := [82, 79, 79, 84, 50]
def R3 : List UInt8 := [82, 79, 79, 84, 51]
def HO : List UInt8 := [72, 79, 77, 69, 49]
def hoP (bs : List UInt8) : Int := pubV (skI bs)
def trZ (L : AV) (z : Int) : Nat → Int
  | 0 => z
  | k + 1 => nxZ L (trZ L z k)
def trS (L : AV) (z : Int) : Sto :=
  ⟨⟨R1, hoP R1, 1 + nxI L (trZ L z 1) 15, 0, 40 + nxI L (trZ L z 2) 100⟩ :: (if nxI L (trZ L z 3) 3 = 1 then [⟨R2, hoP R2, nxI L (trZ L z 4) 16, 10, 60 + nxI L (trZ L z 5) 100⟩] else []), 30 + nxI L z 40⟩
def sgTr : Sg := fun f args ls =>
  match f, args, ls with
  | 40, [.li 1 xs], [] => some (.fr (.opt true (.li 2 [.agg [.li 1 xs, .lit (.int .i64 0)]])), [], xs = (xs.map unI).map iA ∧ xs.length ≤ 400)
  | 41, [.ptr 0 0 0, .lit (.int .i64 n)], [.li 2 [.agg [L, .lit (.int .i64 z)]]] => some (.lit (.int .i64 (nxI L z n)), [.li 2 [.agg [L, .lit (.int .i64 (nxZ L z))]]], DcOK L z ∧ 1 ≤ n ∧ n ≤ 4611686018427387904)
  | 23, [.lit (.string s)], [] => some (.lit (.int .i64 (hoP s.data.toList)), [], s.data.toList.length ≤ 1000000)
  | _, _, _ => none
theorem sgTr_ok : SgOK Tryd.prog sgTr := by
  intro f args ls r ls' vc h hvc
  unfold sgTr at h
  split at h <;> first | (simp only [Option.some.injEq, Prod.mk.injEq] at h; obtain ⟨rfl, rfl, rfl⟩ := h) | cases h
  · rename_i xs
    refine ⟨(fnOK Tryd.func40 (by decide) rfl), ?_⟩
    have := mroll_s (xs.map unI) (by simpa using hvc.2)
    rw [← hvc.1] at this
    exact this
  · exact ⟨(fnOK Tryd.func41 (by decide) rfl), mnext_s _ _ _ hvc.1 hvc.2.1 hvc.2.2⟩
  · exact ⟨(fnOK Tryd.func23 (by decide) rfl), holder_s _ hvc⟩
theorem un_ia (l : List Int) : (l.map iA).map unI = l := by
  rw [List.map_map]
  exact (List.map_congr_left fun x _ => rfl).trans (List.map_id _)
theorem trust_s (l : List Int) (hl : l.length ≤ 400) (hv : ∀ y ∈ l, -9223372036854775808 ≤ y ∧ y ≤ 9223372036854775807) : FnS Tryd.prog 19 [.li 1 (l.map iA)] [] (stoA (trS (.li 1 (l.map iA)) 0)) [] := by
  have hs := sgTr_ok
  have d0 := dc_roll hv hl
  have d1 := dc_nx d0
  have d2 := dc_nx d1
  have d3 := dc_nx d2
  have d4 := dc_nx d3
  have d5 := dc_nx d4
  have hT := Tr_ia l
  have hu := un_ia l
  obtain ⟨L, hL⟩ : ∃ L, AV.li 1 (l.map iA) = L := ⟨_, rfl⟩
  have r0 := nx_rng L 0 40 (by omega)
  have r1 := nx_rng L (nxZ L 0) 15 (by omega)
  have r2 := nx_rng L (nxZ L (nxZ L 0)) 100 (by omega)
  have r5 := nx_rng L (nxZ L (nxZ L (nxZ L (nxZ L (nxZ L 0))))) 100 (by omega)
  refine FnS.of Tryd.func19 rfl (N := 40) rfl (by simp) (by simp) fun X hX => ?_
  simp only [tmArgs, lentH, Nat.reduceAdd]
  refine WA.regionK ty_ok hs fun K hK => ?_
  simp only [go_sem, Nat.reduceAdd, Nat.reduceLT, Nat.reduceLeDiff, Nat.reduceEqDiff, Nat.reduceSub, Nat.reduceMul, Nat.reduceBEq, Nat.reduceBNe, Nat.reducePow, Nat.reduceDiv, Int.reduceLE, Int.reduceLT, Int.reduceToNat, Int.reduceNeg, Int.reduceAdd, Int.reduceSub, Int.reduceEq, reduceIte, reduceCtorEq, UInt8.reduceOfNat, true_and]
  repeat refine And.intro (by first | omega | assumption | (simp; done) | (simp; omega) | (simp +contextual; done) | (simp_all; done) | (simp_all; omega)) ?_
  refine hK _ ?_
  clear hK K
  refine WA.regionK ty_ok hs fun K hK => ?_
  simp only [go_sem, Nat.reduceAdd, Nat.reduceLT, Nat.reduceLeDiff, Nat.reduceEqDiff, Nat.reduceSub, Nat.reduceMul, Nat.reduceBEq, Nat.reduceBNe, Nat.reducePow, Nat.reduceDiv, Int.reduceLE, Int.reduceLT, Int.reduceToNat, Int.reduceNeg, Int.reduceAdd, Int.reduceSub, Int.reduceEq, reduceIte, reduceCtorEq, UInt8.reduceOfNat, sgTr, hT, hu, hl, List.length_map]
  repeat refine And.intro (by first | omega | assumption | (simp; done) | (simp; omega) | (simp +contextual; done) | (simp_all; done) | (simp_all; omega)) ?_
  refine hK _ ?_
  clear hK K
  rw [hL] at d0 d1 d2 d3 d4 d5 hT ⊢
  refine WA.regionK ty_ok hs fun K hK => ?_
  simp only [go_sem, Nat.reduceAdd, Nat.reduceLT, Nat.reduceLeDiff, Nat.reduceEqDiff, Nat.reduceSub, Nat.reduceMul, Nat.reduceBEq, Nat.reduceBNe, Nat.reducePow, Nat.reduceDiv, Int.reduceLE, Int.reduceLT, Int.reduceToNat, Int.reduceNeg, Int.reduceAdd, Int.reduceSub, Int.reduceEq, reduceIte, reduceCtorEq, UInt8.reduceOfNat, sgTr, d0, hT]
  repeat refine And.intro (by first | omega | assumption | (simp; done) | (simp; omega) | (simp +contextual; done) | (simp_all; done) | (simp_all; omega)) ?_
  refine hK _ ?_
  clear hK K
  refine ownC 2064 2 0 (.agg [.lit (.slice none 0 0), .lit (.int .i64 (30 + nxI L 0 40))]) (.li 5 []) rfl rfl rfl (x' := .agg [.sl 2080 5 0 0, .lit (.int .i64 (30 + nxI L 0 40))]) rfl ?_
  have a1 : (ByteArray.mk #[82, 79, 79, 84, 49]).data.toList = R1 := rfl
  have a2 : (ByteArray.mk #[82, 79, 79, 84, 50]).data.toList = R2 := rfl
  have b1 : R1.length = 5 := rfl
  have b2 : R2.length = 5 := rfl
  refine WA.drawnH mixed_ ty_ok hs (tbl := [[], [0], [], [], [2, 3], [2, 3, 4], [], [2, 3, 4, 6], [2, 3, 4, 6, 7], [2, 3, 4, 5, 6, 7, 8], [2, 3, 4, 5, 6, 7, 8, 9], [0, 1, 2, 3, 4, 5, 6, 7, 8, 9, 10], [0, 1, 2, 3, 4, 5, 6, 7, 8, 9, 10, 11], [0, 1, 2, 3, 4, 5, 6, 7, 8, 9, 10, 11, 12]]) (nb := [1, 2, 4, 7, 11, 13]) (hk := [[2016], [2016], [], [], [], [2016], [2016], [], [], [], [], [], [], []]) (by kernel_rfl) fun K hK => ?_
  simp only [go_sem, Nat.reduceAdd, Nat.reduceLT, Nat.reduceLeDiff, Nat.reduceEqDiff, Nat.reduceSub, Nat.reduceMul, Nat.reduceBEq, Nat.reduceBNe, Nat.reducePow, Nat.reduceDiv, Int.reduceLE, Int.reduceLT, Int.reduceToNat, Int.reduceNeg, Int.reduceAdd, Int.reduceSub, Int.reduceEq, reduceIte, reduceCtorEq, UInt8.reduceOfNat, sgTr, d1, d2, hT, a1, b1]
  repeat refine And.intro (by first | omega | assumption | (simp; done) | (simp; omega) | (simp +contextual; done) | (simp_all; done) | (simp_all; omega)) ?_
  refine hK _ ?_
  clear hK K
  refine WA.seq ?_
  refine WA.regionK ty_ok hs fun K hK => ?_
  simp only [go_sem, Nat.reduceAdd, Nat.reduceLT, Nat.reduceLeDiff, Nat.reduceEqDiff, Nat.reduceSub, Nat.reduceMul, Nat.reduceBEq, Nat.reduceBNe, Nat.reducePow, Nat.reduceDiv, Int.reduceLE, Int.reduceLT, Int.reduceToNat, Int.reduceNeg, Int.reduceAdd, Int.reduceSub, Int.reduceEq, reduceIte, reduceCtorEq, UInt8.reduceOfNat, sgTr, d3, hT]
  repeat refine And.intro (by first | omega | assumption | (simp; done) | (simp; omega) | (simp +contextual; done) | (simp_all; done) | (simp_all; omega)) ?_
  refine hK _ ?_
  clear hK K
  refine WA.cond rfl (fun h => ?_) (fun h => ?_)
  ·
    have h : nxI L (nxZ L (nxZ L (nxZ L 0))) 3 = 1 := by first | (simp only [Bool.and_eq_true, Bool.or_eq_true, Bool.not_eq_true', decide_eq_true_eq, decide_eq_false_iff_not, beq_iff_eq, bne_iff_ne, ne_eq, Bool.not_eq_eq_eq_not, Bool.not_true, Bool.not_false, beq_eq_false_iff_ne, bne_eq_false_iff_eq, Bool.and_eq_false_imp, Bool.or_eq_false_iff, Bool.cond_false_right, Bool.cond_true_left, Bool.cond_false_left, Bool.cond_true_right, gt_iff_lt, ge_iff_le, true_and] at h; first | exact h | omega) | omega | simpa using h
    have e : stoA (trS L 0) = .agg [.li 5 [.agg [.lit (.string ⟨#[82, 79, 79, 84, 49]⟩), .lit (.int .i64 (hoP [82, 79, 79, 84, 49])), .lit (.int .i64 (1 + nxI L (nxZ L 0) 15)), .lit (.int .i64 0), .lit (.int .i64 (40 + nxI L (nxZ L (nxZ L 0)) 100))], .agg [.lit (.string ⟨#[82, 79, 79, 84, 50]⟩), .lit (.int .i64 (hoP [82, 79, 79, 84, 50])), .lit (.int .i64 (nxI L (nxZ L (nxZ L (nxZ L (nxZ L 0)))) 16)), .lit (.int .i64 10), .lit (.int .i64 (60 + nxI L (nxZ L (nxZ L (nxZ L (nxZ L (nxZ L 0))))) 100))]], .lit (.int .i64 (30 + nxI L 0 40))] := by
      have h' : nxI L (trZ L 0 3) 3 = 1 := h
      unfold trS
      rw [if_pos h']
      rfl
    rw [e]
    refine WA.drawn2 mixed_ ty_ok hs (tbl := [[], [0], [], [], [2, 3], [], [2, 3, 4, 5], [2, 3, 4, 5, 6], [2, 3, 4, 5, 6, 7], [2, 3, 4, 5, 6, 7, 8], [0, 1, 2, 3, 4, 5, 6, 7, 8, 9], [0, 1, 2, 3, 4, 5, 6, 7, 8, 9, 10], [0, 1, 2, 3, 4, 5, 6, 7, 8, 9, 10, 11]]) (nb := [1, 2, 4, 6, 10, 12]) (hk := [[2016], [2016], [], [], [], [2016], [], [], [], [], [], [], []]) (by kernel_rfl) fun K hK => ?_
    simp only [go_sem, Nat.reduceAdd, Nat.reduceLT, Nat.reduceLeDiff, Nat.reduceEqDiff, Nat.reduceSub, Nat.reduceMul, Nat.reduceBEq, Nat.reduceBNe, Nat.reducePow, Nat.reduceDiv, Int.reduceLE, Int.reduceLT, Int.reduceToNat, Int.reduceNeg, Int.reduceAdd, Int.reduceSub, Int.reduceEq, reduceIte, reduceCtorEq, UInt8.reduceOfNat, sgTr, d4, d5, hT, a2, b2]
    repeat refine And.intro (by first | omega | assumption | (simp; done) | (simp; omega) | (simp +contextual; done) | (simp_all; done) | (simp_all; omega)) ?_
    with_reducible refine hK _ (WN.mk ?_)
    clear hK K
    repeat first | with_reducible refine WN.t ?_ | with_reducible refine WN.b ?_
    refine WA.regionK ty_ok hs fun K hK => ?_
    simp only [go_sem, Nat.reduceAdd, Nat.reduceLT, Nat.reduceLeDiff, Nat.reduceEqDiff, Nat.reduceSub, Nat.reduceMul, Nat.reduceBEq, Nat.reduceBNe, Nat.reducePow, Nat.reduceDiv, Int.reduceLE, Int.reduceLT, Int.reduceToNat, Int.reduceNeg, Int.reduceAdd, Int.reduceSub, Int.reduceEq, reduceIte, reduceCtorEq, UInt8.reduceOfNat, true_and]
    repeat refine And.intro (by first | omega | assumption | (simp; done) | (simp; omega) | (simp +contextual; done) | (simp_all; done) | (simp_all; omega)) ?_
    refine hK _ ?_
    clear hK K
    refine WA.retE ty_ok (xs := [.agg [.li 5 [.agg [.lit (.string ⟨#[82, 79, 79, 84, 49]⟩), .lit (.int .i64 (hoP [82, 79, 79, 84, 49])), .lit (.int .i64 (1 + nxI L (nxZ L 0) 15)), .lit (.int .i64 0), .lit (.int .i64 (40 + nxI L (nxZ L (nxZ L 0)) 100))], .agg [.lit (.string ⟨#[82, 79, 79, 84, 50]⟩), .lit (.int .i64 (hoP [82, 79, 79, 84, 50])), .lit (.int .i64 (nxI L (nxZ L (nxZ L (nxZ L (nxZ L 0)))) 16)), .lit (.int .i64 10), .lit (.int .i64 (60 + nxI L (nxZ L (nxZ L (nxZ L (nxZ L (nxZ L 0))))) 100))]], .lit (.int .i64 (30 + nxI L 0 40))]]) (ls' := []) (rv := [.cell 2 24]) rfl hX (by decide) (fun _ => rfl) (fun _ _ h => h) ?_
    simp only [go_sem, Nat.reduceAdd, Nat.reduceLT, Nat.reduceLeDiff, Nat.reduceEqDiff, Nat.reduceSub, Nat.reduceMul, Nat.reduceBEq, Nat.reduceBNe, Nat.reducePow, Nat.reduceDiv, Int.reduceLE, Int.reduceLT, Int.reduceToNat, Int.reduceNeg, Int.reduceAdd, Int.reduceSub, Int.reduceEq, reduceIte, reduceCtorEq, UInt8.reduceOfNat, sbT]
    all_goals (first | done | exact Nat.le_refl _ | (simp; done) | (and_intros <;> first | omega | exact Nat.le_refl _ | (simp; done) | (simp; omega)))
  ·
    have h : ¬ nxI L (nxZ L (nxZ L (nxZ L 0))) 3 = 1 := by first | (simp only [Bool.and_eq_true, Bool.or_eq_true, Bool.not_eq_true', decide_eq_true_eq, decide_eq_false_iff_not, beq_iff_eq, bne_iff_ne, ne_eq, Bool.not_eq_eq_eq_not, Bool.not_true, Bool.not_false, beq_eq_false_iff_ne, bne_eq_false_iff_eq, Bool.and_eq_false_imp, Bool.or_eq_false_iff, Bool.cond_false_right, Bool.cond_true_left, Bool.cond_false_left, Bool.cond_true_right, gt_iff_lt, ge_iff_le, true_and] at h; first | exact h | omega) | omega | simpa using h
    have e : stoA (trS L 0) = .agg [.li 5 [.agg [.lit (.string ⟨#[82, 79, 79, 84, 49]⟩), .lit (.int .i64 (hoP [82, 79, 79, 84, 49])), .lit (.int .i64 (1 + nxI L (nxZ L 0) 15)), .lit (.int .i64 0), .lit (.int .i64 (40 + nxI L (nxZ L (nxZ L 0)) 100))]], .lit (.int .i64 (30 + nxI L 0 40))] := by
      have h' : ¬ nxI L (trZ L 0 3) 3 = 1 := h
      unfold trS
      rw [if_neg h']
      rfl
    rw [e]
    with_reducible refine WA.skipN ?_
    repeat first | with_reducible refine WN.t ?_ | with_reducible refine WN.b ?_
    refine WA.regionK ty_ok hs fun K hK => ?_
    simp only [go_sem, Nat.reduceAdd, Nat.reduceLT, Nat.reduceLeDiff, Nat.reduceEqDiff, Nat.reduceSub, Nat.reduceMul, Nat.reduceBEq, Nat.reduceBNe, Nat.reducePow, Nat.reduceDiv, Int.reduceLE, Int.reduceLT, Int.reduceToNat, Int.reduceNeg, Int.reduceAdd, Int.reduceSub, Int.reduceEq, reduceIte, reduceCtorEq, UInt8.reduceOfNat, true_and]
    repeat refine And.intro (by first | omega | assumption | (simp; done) | (simp; omega) | (simp +contextual; done) | (simp_all; done) | (simp_all; omega)) ?_
    refine hK _ ?_
    clear hK K
    refine WA.retE ty_ok (xs := [.agg [.li 5 [.agg [.lit (.string ⟨#[82, 79, 79, 84, 49]⟩), .lit (.int .i64 (hoP [82, 79, 79, 84, 49])), .lit (.int .i64 (1 + nxI L (nxZ L 0) 15)), .lit (.int .i64 0), .lit (.int .i64 (40 + nxI L (nxZ L (nxZ L 0)) 100))]], .lit (.int .i64 (30 + nxI L 0 40))]]) (ls' := []) (rv := [.cell 2 24]) rfl hX (by decide) (fun _ => rfl) (fun _ _ h => h) ?_
    simp only [go_sem, Nat.reduceAdd, Nat.reduceLT, Nat.reduceLeDiff, Nat.reduceEqDiff, Nat.reduceSub, Nat.reduceMul, Nat.reduceBEq, Nat.reduceBNe, Nat.reducePow, Nat.reduceDiv, Int.reduceLE, Int.reduceLT, Int.reduceToNat, Int.reduceNeg, Int.reduceAdd, Int.reduceSub, Int.reduceEq, reduceIte, reduceCtorEq, UInt8.reduceOfNat, sbT]
    all_goals (first | done | exact Nat.le_refl _ | (simp; done) | (and_intros <;> first | omega | exact Nat.le_refl _ | (simp; done) | (simp; omega)))
end Go.Proofs.YtgmmdijmlnehlaaDoor
