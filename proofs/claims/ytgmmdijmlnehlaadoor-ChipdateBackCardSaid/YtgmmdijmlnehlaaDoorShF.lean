import Derived.Test.YtgmmdijmlnehlaaDoorShE
namespace Go.Proofs.YtgmmdijmlnehlaaDoor
open Go.RowKit Go.TravelBase Go.TravelAbs
set_option linter.unusedVariables false
set_option linter.unusedSimpArgs false



















/-! ### Holders of terminal certificates -/
def secF (n : Nat) (b : UInt8) : Nat := (n * 131 + b.toNat) % 100003
def secN (bs : List UInt8) : Nat := bs.foldl secF 7
theorem secN_snoc (bs : List UInt8) (b : UInt8) : secN (bs ++ [b]) = secF (secN bs) b := by simp [secN]
theorem secN_lt (bs : List UInt8) : secN bs < 100003 := by
  rcases List.eq_nil_or_concat bs with rfl | ⟨l, b, rfl⟩
  · decide
  · rw [List.concat_eq_append, secN_snoc]
    exact Nat.mod_lt _ (by decide)
theorem secN_take {bs : List UInt8} {i : Nat} (h : i < bs.length) : secN (bs.take (i + 1)) = secF (secN (bs.take i)) (bs.getD i 0) := by
  rw [List.take_add_one, List.getElem?_eq_getElem h, Option.toList_some, secN_snoc]
  simp [List.getD, List.getElem?_eq_getElem h]
theorem secof_s (bs : List UInt8) (hb : bs.length ≤ 1000000) : FnS Tryd.prog 46 [.lit (.string (strB bs))] [] (.lit (.int .i64 ((secN bs + 1 : Nat) : Int))) [] := by
  have hs := sg0_ok
  refine FnS.of Tryd.func46 rfl (N := 21) rfl (by simp) (by simp) fun X hX => ?_
  simp only [tmArgs, lentH, Nat.reduceAdd]
  refine WA.regionK ty_ok hs fun K hK => ?_
  simp only [go_sem, Nat.reduceAdd, Nat.reduceLT, Nat.reduceLeDiff, Nat.reduceEqDiff, Nat.reduceSub, Nat.reduceMul, Nat.reduceBEq, Nat.reduceBNe, Nat.reducePow, Nat.reduceDiv, Int.reduceLE, Int.reduceLT, Int.reduceToNat, Int.reduceNeg, Int.reduceAdd, Int.reduceSub, Int.reduceEq, reduceIte, reduceCtorEq, UInt8.reduceOfNat, true_and]
  repeat refine And.intro (by first | omega | assumption | (simp; done) | (simp; omega) | (simp +contextual; done) | (simp_all; done) | (simp_all; omega)) ?_
  refine hK _ ?_
  clear hK K
  refine WA.regionK ty_ok hs fun K hK => ?_
  simp only [go_sem, Nat.reduceAdd, Nat.reduceLT, Nat.reduceLeDiff, Nat.reduceEqDiff, Nat.reduceSub, Nat.reduceMul, Nat.reduceBEq, Nat.reduceBNe, Nat.reducePow, Nat.reduceDiv, Int.reduceLE, Int.reduceLT, Int.reduceToNat, Int.reduceNeg, Int.reduceAdd, Int.reduceSub, Int.reduceEq, reduceIte, reduceCtorEq, UInt8.reduceOfNat, true_and]
  repeat refine And.intro (by first | omega | assumption | (simp; done) | (simp; omega) | (simp +contextual; done) | (simp_all; done) | (simp_all; omega)) ?_
  refine hK _ ?_
  clear hK K
  refine WA.seq ?_
  refine WA.regionK ty_ok hs fun K hK => ?_
  simp only [go_sem, Nat.reduceAdd, Nat.reduceLT, Nat.reduceLeDiff, Nat.reduceEqDiff, Nat.reduceSub, Nat.reduceMul, Nat.reduceBEq, Nat.reduceBNe, Nat.reducePow, Nat.reduceDiv, Int.reduceLE, Int.reduceLT, Int.reduceToNat, Int.reduceNeg, Int.reduceAdd, Int.reduceSub, Int.reduceEq, reduceIte, reduceCtorEq, UInt8.reduceOfNat, true_and]
  repeat refine And.intro (by first | omega | assumption | (simp; done) | (simp; omega) | (simp +contextual; done) | (simp_all; done) | (simp_all; omega)) ?_
  refine hK _ ?_
  clear hK K
  refine WA.block ?_
  have s0 : secN [] = 7 := rfl
  refine WA.loopW hX (fun k => k) ((fun (i : Nat) => ⟨[(0, .lit (.string (strB bs))), (3, .lit (.int .i64 (secN (bs.take i) : Nat))), (4, .lit (.int .i64 (i : Nat)))], [], 4000, 21⟩ : _ → St)) (fun i => bs.length - i) (fun i => i ≤ bs.length) (i0 := 0) (Nat.zero_le _) (by simp only [go_sem, Int.natCast_add, Nat.reduceAdd, Nat.reduceLT, Nat.reduceLeDiff, Nat.reduceEqDiff, Nat.reduceSub, Nat.reduceMul, Nat.reduceBEq, Nat.reduceBNe, Nat.reducePow, Nat.reduceDiv, Int.reduceLE, Int.reduceLT, Int.reduceToNat, Int.reduceNeg, Int.reduceAdd, Int.reduceSub, Int.reduceEq, reduceIte, reduceCtorEq, UInt8.reduceOfNat, s0, Int.natCast_zero, Int.cast_ofNat_Int] <;> (try and_intros) <;> (try omega)) fun i hi => ?_
  have hz := secN_lt (bs.take i)
  refine WA.seq ?_
  refine WA.regionK ty_ok hs fun K hK => ?_
  simp only [go_sem, Nat.reduceAdd, Nat.reduceLT, Nat.reduceLeDiff, Nat.reduceEqDiff, Nat.reduceSub, Nat.reduceMul, Nat.reduceBEq, Nat.reduceBNe, Nat.reducePow, Nat.reduceDiv, Int.reduceLE, Int.reduceLT, Int.reduceToNat, Int.reduceNeg, Int.reduceAdd, Int.reduceSub, Int.reduceEq, reduceIte, reduceCtorEq, UInt8.reduceOfNat, strB_size]
  repeat refine And.intro (by first | omega | assumption | (simp; done) | (simp; omega) | (simp +contextual; done) | (simp_all; done) | (simp_all; omega)) ?_
  refine hK _ ?_
  clear hK K
  refine WA.cond rfl (fun h => ?_) (fun h => ?_)
  ·
    have h : i < bs.length := by first | (simp only [Bool.and_eq_true, Bool.or_eq_true, Bool.not_eq_true', decide_eq_true_eq, decide_eq_false_iff_not, beq_iff_eq, bne_iff_ne, ne_eq, Bool.not_eq_eq_eq_not, Bool.not_true, Bool.not_false, beq_eq_false_iff_ne, bne_eq_false_iff_eq, Bool.and_eq_false_imp, Bool.or_eq_false_iff, Bool.cond_false_right, Bool.cond_true_left, Bool.cond_false_left, Bool.cond_true_right, gt_iff_lt, ge_iff_le, true_and] at h; first | exact h | omega) | omega | simpa using h
    have e1 := secN_take h
    have c8 := (bs.getD i 0).toNat_lt
    have wk : IntKind.i64.wrap ((bs.getD i 0).toNat : Int) = (bs.getD i 0).toNat := wrap_i64 (by omega) (by omega)
    have e2 : ((secN (bs.take i) : Nat) * 131 + ((bs.getD i 0).toNat : Int)).tmod 100003 = (secN (bs.take (i + 1)) : Nat) := by
      rw [e1, secF, Int.tmod_eq_emod_of_nonneg (by omega)]
      omega
    with_reducible refine WA.skipN ?_
    repeat first | with_reducible refine WN.t ?_ | with_reducible refine WN.b ?_
    refine WA.seq ?_
    refine WA.block ?_
    refine WA.regionE ty_ok hs fun K hK => ?_
    simp only [go_sem, Nat.reduceAdd, Nat.reduceLT, Nat.reduceLeDiff, Nat.reduceEqDiff, Nat.reduceSub, Nat.reduceMul, Nat.reduceBEq, Nat.reduceBNe, Nat.reducePow, Nat.reduceDiv, Int.reduceLE, Int.reduceLT, Int.reduceToNat, Int.reduceNeg, Int.reduceAdd, Int.reduceSub, Int.reduceEq, reduceIte, reduceCtorEq, UInt8.reduceOfNat, strB_size, strB_list, wk, e2]
    repeat refine And.intro (by first | omega | assumption | (simp; done) | (simp; omega) | (simp +contextual; done) | (simp_all; done) | (simp_all; omega)) ?_
    with_reducible refine hK _ (WN.mk ?_)
    clear hK K
    repeat first | with_reducible refine WN.t ?_ | with_reducible refine WN.b ?_
    refine WA.regionE ty_ok hs fun K hK => ?_
    simp only [go_sem, Nat.reduceAdd, Nat.reduceLT, Nat.reduceLeDiff, Nat.reduceEqDiff, Nat.reduceSub, Nat.reduceMul, Nat.reduceBEq, Nat.reduceBNe, Nat.reducePow, Nat.reduceDiv, Int.reduceLE, Int.reduceLT, Int.reduceToNat, Int.reduceNeg, Int.reduceAdd, Int.reduceSub, Int.reduceEq, reduceIte, reduceCtorEq, UInt8.reduceOfNat, true_and]
    repeat refine And.intro (by first | omega | assumption | (simp; done) | (simp; omega) | (simp +contextual; done) | (simp_all; done) | (simp_all; omega)) ?_
    refine hK _ (roundE hX (fun k => k) (j := i + 1) (by omega) (by first | omega | (dsimp only; omega) | (simp; omega)) (by simp only [go_sem, Int.natCast_add, Nat.reduceAdd, Nat.reduceLT, Nat.reduceLeDiff, Nat.reduceEqDiff, Nat.reduceSub, Nat.reduceMul, Nat.reduceBEq, Nat.reduceBNe, Nat.reducePow, Nat.reduceDiv, Int.reduceLE, Int.reduceLT, Int.reduceToNat, Int.reduceNeg, Int.reduceAdd, Int.reduceSub, Int.reduceEq, reduceIte, reduceCtorEq, UInt8.reduceOfNat, true_and] <;> (try and_intros) <;> (try omega)))
  ·
    with_reducible refine WA.exitX ?_
    repeat first | with_reducible refine WX.b ?_ | with_reducible refine WX.t ?_ | (with_reducible refine WX.n ?hne ?_; case hne => rfl)
    have h : ¬ i < bs.length := by first | (simp only [Bool.and_eq_true, Bool.or_eq_true, Bool.not_eq_true', decide_eq_true_eq, decide_eq_false_iff_not, beq_iff_eq, bne_iff_ne, ne_eq, Bool.not_eq_eq_eq_not, Bool.not_true, Bool.not_false, beq_eq_false_iff_ne, bne_eq_false_iff_eq, Bool.and_eq_false_imp, Bool.or_eq_false_iff, Bool.cond_false_right, Bool.cond_true_left, Bool.cond_false_left, Bool.cond_true_right, gt_iff_lt, ge_iff_le, true_and] at h; first | exact h | omega) | omega | simpa using h
    obtain rfl : i = bs.length := by omega
    rw [List.take_length] at hz ⊢
    refine WA.regionK ty_ok hs fun K hK => ?_
    simp only [go_sem, Nat.reduceAdd, Nat.reduceLT, Nat.reduceLeDiff, Nat.reduceEqDiff, Nat.reduceSub, Nat.reduceMul, Nat.reduceBEq, Nat.reduceBNe, Nat.reducePow, Nat.reduceDiv, Int.reduceLE, Int.reduceLT, Int.reduceToNat, Int.reduceNeg, Int.reduceAdd, Int.reduceSub, Int.reduceEq, reduceIte, reduceCtorEq, UInt8.reduceOfNat, true_and]
    repeat refine And.intro (by first | omega | assumption | (simp; done) | (simp; omega) | (simp +contextual; done) | (simp_all; done) | (simp_all; omega)) ?_
    refine hK _ ?_
    clear hK K
    refine WA.retE ty_ok (xs := [.lit (.int .i64 ((secN bs + 1 : Nat) : Int))]) (ls' := []) (rv := [.tmp 2]) rfl hX (by decide) (fun _ => rfl) (fun _ _ h => h) ?_
    simp only [go_sem, Nat.reduceAdd, Nat.reduceLT, Nat.reduceLeDiff, Nat.reduceEqDiff, Nat.reduceSub, Nat.reduceMul, Nat.reduceBEq, Nat.reduceBNe, Nat.reducePow, Nat.reduceDiv, Int.reduceLE, Int.reduceLT, Int.reduceToNat, Int.reduceNeg, Int.reduceAdd, Int.reduceSub, Int.reduceEq, reduceIte, reduceCtorEq, UInt8.reduceOfNat, sbT, Int.natCast_add]
    all_goals (first | done | exact Nat.le_refl _ | (simp; done) | (and_intros <;> first | omega | exact Nat.le_refl _ | (simp; done) | (simp; omega)))
def sgSe : Sg := fun f args ls =>
  match f, args, ls with
  | 22, [.lit (.int .i64 x), .lit (.int .i64 n)], [] => some (.lit (.int .i64 (x % n)), [], (1 ≤ n ∧ n ≤ 4611686018427387904) ∧ -9223372036854775808 ≤ x ∧ x ≤ 9223372036854775807)
  | 60, [.lit (.int .i64 x)], [] => some (.tup [.lit (.int .i64 (pubV x)), .lit (.int .i64 (pubE x))], [], True)
  | _, _, _ => none
theorem sgSe_ok : SgOK Tryd.prog sgSe := by
  intro f args ls r ls' vc h hvc
  unfold sgSe at h
  split at h <;> first | (simp only [Option.some.injEq, Prod.mk.injEq] at h; obtain ⟨rfl, rfl, rfl⟩ := h) | cases h
  · exact ⟨(fnOK Tryd.func22 (by decide) rfl), mmod_s _ _ hvc.1.1 hvc.1.2 hvc.2⟩
  · exact ⟨(fnOK Tryd.func60 (by decide) rfl), rpub_s _⟩
theorem secret_s (n : Int) (hn : 0 ≤ n ∧ n ≤ 1000000) : FnS Tryd.prog 45 [.lit (.int .i64 n)] [] (.tup [.lit (.int .i64 (1 + n)), .lit (.int .i64 (pubV (1 + n)))]) [] := by
  have hs := sgSe_ok
  have e : n % 1073741788 = n := Int.emod_eq_of_lt hn.1 (by omega)
  refine FnS.of Tryd.func45 rfl (N := 17) rfl (by simp) (by simp) fun X hX => ?_
  simp only [tmArgs, lentH, Nat.reduceAdd]
  refine WA.regionK ty_ok hs fun K hK => ?_
  simp only [go_sem, Nat.reduceAdd, Nat.reduceLT, Nat.reduceLeDiff, Nat.reduceEqDiff, Nat.reduceSub, Nat.reduceMul, Nat.reduceBEq, Nat.reduceBNe, Nat.reducePow, Nat.reduceDiv, Int.reduceLE, Int.reduceLT, Int.reduceToNat, Int.reduceNeg, Int.reduceAdd, Int.reduceSub, Int.reduceEq, reduceIte, reduceCtorEq, UInt8.reduceOfNat, true_and]
  repeat refine And.intro (by first | omega | assumption | (simp; done) | (simp; omega) | (simp +contextual; done) | (simp_all; done) | (simp_all; omega)) ?_
  refine hK _ ?_
  clear hK K
  refine WA.regionK ty_ok hs fun K hK => ?_
  simp only [go_sem, Nat.reduceAdd, Nat.reduceLT, Nat.reduceLeDiff, Nat.reduceEqDiff, Nat.reduceSub, Nat.reduceMul, Nat.reduceBEq, Nat.reduceBNe, Nat.reducePow, Nat.reduceDiv, Int.reduceLE, Int.reduceLT, Int.reduceToNat, Int.reduceNeg, Int.reduceAdd, Int.reduceSub, Int.reduceEq, reduceIte, reduceCtorEq, UInt8.reduceOfNat, sgSe, e]
  repeat refine And.intro (by first | omega | assumption | (simp; done) | (simp; omega) | (simp +contextual; done) | (simp_all; done) | (simp_all; omega)) ?_
  refine hK _ ?_
  clear hK K
  refine WA.regionK ty_ok hs fun K hK => ?_
  simp only [go_sem, Nat.reduceAdd, Nat.reduceLT, Nat.reduceLeDiff, Nat.reduceEqDiff, Nat.reduceSub, Nat.reduceMul, Nat.reduceBEq, Nat.reduceBNe, Nat.reducePow, Nat.reduceDiv, Int.reduceLE, Int.reduceLT, Int.reduceToNat, Int.reduceNeg, Int.reduceAdd, Int.reduceSub, Int.reduceEq, reduceIte, reduceCtorEq, UInt8.reduceOfNat, sgSe]
  repeat refine And.intro (by first | omega | assumption | (simp; done) | (simp; omega) | (simp +contextual; done) | (simp_all; done) | (simp_all; omega)) ?_
  refine hK _ ?_
  clear hK K
  refine WA.regionK ty_ok hs fun K hK => ?_
  simp only [go_sem, Nat.reduceAdd, Nat.reduceLT, Nat.reduceLeDiff, Nat.reduceEqDiff, Nat.reduceSub, Nat.reduceMul, Nat.reduceBEq, Nat.reduceBNe, Nat.reducePow, Nat.reduceDiv, Int.reduceLE, Int.reduceLT, Int.reduceToNat, Int.reduceNeg, Int.reduceAdd, Int.reduceSub, Int.reduceEq, reduceIte, reduceCtorEq, UInt8.reduceOfNat, true_and]
  repeat refine And.intro (by first | omega | assumption | (simp; done) | (simp; omega) | (simp +contextual; done) | (simp_all; done) | (simp_all; omega)) ?_
  refine hK _ ?_
  clear hK K
  refine WA.retE ty_ok (xs := [.lit (.int .i64 (1 + n)), .lit (.int .i64 (pubV (1 + n)))]) (ls' := []) (rv := [.tmp 2, .tmp 3]) rfl hX (by decide) (fun _ => rfl) (fun _ _ h => h) ?_
  simp only [go_sem, Nat.reduceAdd, Nat.reduceLT, Nat.reduceLeDiff, Nat.reduceEqDiff, Nat.reduceSub, Nat.reduceMul, Nat.reduceBEq, Nat.reduceBNe, Nat.reducePow, Nat.reduceDiv, Int.reduceLE, Int.reduceLT, Int.reduceToNat, Int.reduceNeg, Int.reduceAdd, Int.reduceSub, Int.reduceEq, reduceIte, reduceCtorEq, UInt8.reduceOfNat, sbT]
  all_goals (first | done | exact Nat.le_refl _ | (simp; done) | (and_intros <;> first | omega | exact Nat.le_refl _ | (simp; done) | (simp; omega)))
def skI (bs : List UInt8) : Int := 1 + (secN bs : Nat)
theorem skI_sec (bs : List UInt8) : secB (skI bs) = true := by
  have := secN_lt bs
  unfold secB skI
  exact decide_eq_true (by omega)
def sgHo : Sg := fun f args ls =>
  match f, args, ls with
  | 46, [.lit (.string s)], [] => some (.lit (.int .i64 ((secN s.data.toList + 1 : Nat) : Int)), [], s.data.toList.length ≤ 1000000)
  | 45, [.lit (.int .i64 n)], [] => some (.tup [.lit (.int .i64 (1 + n)), .lit (.int .i64 (pubV (1 + n)))], [], 0 ≤ n ∧ n ≤ 1000000)
  | _, _, _ => none
theorem sgHo_ok : SgOK Tryd.prog sgHo := by
  intro f args ls r ls' vc h hvc
  unfold sgHo at h
  split at h <;> first | (simp only [Option.some.injEq, Prod.mk.injEq] at h; obtain ⟨rfl, rfl, rfl⟩ := h) | cases h
  · exact ⟨(fnOK Tryd.func46 (by decide) rfl), secof_s _ hvc⟩
  · exact ⟨(fnOK Tryd.func45 (by decide) rfl), secret_s _ hvc⟩
theorem holder_s (bs : List UInt8) (hb : bs.length ≤ 1000000) : FnS Tryd.prog 23 [.lit (.string (strB bs))] [] (.lit (.int .i64 (pubV (skI bs)))) [] := by
  have hs := sgHo_ok
  have hz := secN_lt bs
  have e : ((secN bs + 1 : Nat) : Int) - 1 = (secN bs : Nat) := by omega
  refine FnS.of Tryd.func23 rfl (N := 13) rfl (by simp) (by simp) fun X hX => ?_
  simp only [tmArgs, lentH, Nat.reduceAdd]
  refine WA.regionK ty_ok hs fun K hK => ?_
  simp only [go_sem, Nat.reduceAdd, Nat.reduceLT, Nat.reduceLeDiff, Nat.reduceEqDiff, Nat.reduceSub, Nat.reduceMul, Nat.reduceBEq, Nat.reduceBNe, Nat.reducePow, Nat.reduceDiv, Int.reduceLE, Int.reduceLT, Int.reduceToNat, Int.reduceNeg, Int.reduceAdd, Int.reduceSub, Int.reduceEq, reduceIte, reduceCtorEq, UInt8.reduceOfNat, true_and]
  repeat refine And.intro (by first | omega | assumption | (simp; done) | (simp; omega) | (simp +contextual; done) | (simp_all; done) | (simp_all; omega)) ?_
  refine hK _ ?_
  clear hK K
  refine WA.regionK ty_ok hs fun K hK => ?_
  simp only [go_sem, Nat.reduceAdd, Nat.reduceLT, Nat.reduceLeDiff, Nat.reduceEqDiff, Nat.reduceSub, Nat.reduceMul, Nat.reduceBEq, Nat.reduceBNe, Nat.reducePow, Nat.reduceDiv, Int.reduceLE, Int.reduceLT, Int.reduceToNat, Int.reduceNeg, Int.reduceAdd, Int.reduceSub, Int.reduceEq, reduceIte, reduceCtorEq, UInt8.reduceOfNat, sgHo, strB_list, e, hb]
  repeat refine And.intro (by first | omega | assumption | (simp; done) | (simp; omega) | (simp +contextual; done) | (simp_all; done) | (simp_all; omega)) ?_
  refine hK _ ?_
  clear hK K
  refine WA.regionK ty_ok hs fun K hK => ?_
  simp only [go_sem, Nat.reduceAdd, Nat.reduceLT, Nat.reduceLeDiff, Nat.reduceEqDiff, Nat.reduceSub, Nat.reduceMul, Nat.reduceBEq, Nat.reduceBNe, Nat.reducePow, Nat.reduceDiv, Int.reduceLE, Int.reduceLT, Int.reduceToNat, Int.reduceNeg, Int.reduceAdd, Int.reduceSub, Int.reduceEq, reduceIte, reduceCtorEq, UInt8.reduceOfNat, true_and]
  repeat refine And.intro (by first | omega | assumption | (simp; done) | (simp; omega) | (simp +contextual; done) | (simp_all; done) | (simp_all; omega)) ?_
  refine hK _ ?_
  clear hK K
  refine WA.retE ty_ok (xs := [.lit (.int .i64 (pubV (skI bs)))]) (ls' := []) (rv := [.tmp 2]) rfl hX (by decide) (fun _ => rfl) (fun _ _ h => h) ?_
  simp only [go_sem, Nat.reduceAdd, Nat.reduceLT, Nat.reduceLeDiff, Nat.reduceEqDiff, Nat.reduceSub, Nat.reduceMul, Nat.reduceBEq, Nat.reduceBNe, Nat.reducePow, Nat.reduceDiv, Int.reduceLE, Int.reduceLT, Int.reduceToNat, Int.reduceNeg, Int.reduceAdd, Int.reduceSub, Int.reduceEq, reduceIte, reduceCtorEq, UInt8.reduceOfNat, sbT, skI]
  all_goals (first | done | exact Nat.le_refl _ | (simp; done) | (and_intros <;> first | omega | exact Nat.le_refl _ | (simp; done) | (simp; omega)))
theorem tsecret_s (bs : List UInt8) (hb : bs.length ≤ 1000000) : FnS Tryd.prog 48 [.lit (.string (strB bs))] [] (.lit (.int .i64 (skI bs))) [] := by
  have hs := sgHo_ok
  have hz := secN_lt bs
  have e : ((secN bs + 1 : Nat) : Int) - 1 = (secN bs : Nat) := by omega
  refine FnS.of Tryd.func48 rfl (N := 13) rfl (by simp) (by simp) fun X hX => ?_
  simp only [tmArgs, lentH, Nat.reduceAdd]
  refine WA.regionK ty_ok hs fun K hK => ?_
  simp only [go_sem, Nat.reduceAdd, Nat.reduceLT, Nat.reduceLeDiff, Nat.reduceEqDiff, Nat.reduceSub, Nat.reduceMul, Nat.reduceBEq, Nat.reduceBNe, Nat.reducePow, Nat.reduceDiv, Int.reduceLE, Int.reduceLT, Int.reduceToNat, Int.reduceNeg, Int.reduceAdd, Int.reduceSub, Int.reduceEq, reduceIte, reduceCtorEq, UInt8.reduceOfNat, true_and]
  repeat refine And.intro (by first | omega | assumption | (simp; done) | (simp; omega) | (simp +contextual; done) | (simp_all; done) | (simp_all; omega)) ?_
  refine hK _ ?_
  clear hK K
  refine WA.regionK ty_ok hs fun K hK => ?_
  simp only [go_sem, Nat.reduceAdd, Nat.reduceLT, Nat.reduceLeDiff, Nat.reduceEqDiff, Nat.reduceSub, Nat.reduceMul, Nat.reduceBEq, Nat.reduceBNe, Nat.reducePow, Nat.reduceDiv, Int.reduceLE, Int.reduceLT, Int.reduceToNat, Int.reduceNeg, Int.reduceAdd, Int.reduceSub, Int.reduceEq, reduceIte, reduceCtorEq, UInt8.reduceOfNat, sgHo, strB_list, e, hb]
  repeat refine And.intro (by first | omega | assumption | (simp; done) | (simp; omega) | (simp +contextual; done) | (simp_all; done) | (simp_all; omega)) ?_
  refine hK _ ?_
  clear hK K
  refine WA.regionK ty_ok hs fun K hK => ?_
  simp only [go_sem, Nat.reduceAdd, Nat.reduceLT, Nat.reduceLeDiff, Nat.reduceEqDiff, Nat.reduceSub, Nat.reduceMul, Nat.reduceBEq, Nat.reduceBNe, Nat.reducePow, Nat.reduceDiv, Int.reduceLE, Int.reduceLT, Int.reduceToNat, Int.reduceNeg, Int.reduceAdd, Int.reduceSub, Int.reduceEq, reduceIte, reduceCtorEq, UInt8.reduceOfNat, true_and]
  repeat refine And.intro (by first | omega | assumption | (simp; done) | (simp; omega) | (simp +contextual; done) | (simp_all; done) | (simp_all; omega)) ?_
  refine hK _ ?_
  clear hK K
  refine WA.retE ty_ok (xs := [.lit (.int .i64 (skI bs))]) (ls' := []) (rv := [.tmp 2]) rfl hX (by decide) (fun _ => rfl) (fun _ _ h => h) ?_
  simp only [go_sem, Nat.reduceAdd, Nat.reduceLT, Nat.reduceLeDiff, Nat.reduceEqDiff, Nat.reduceSub, Nat.reduceMul, Nat.reduceBEq, Nat.reduceBNe, Nat.reducePow, Nat.reduceDiv, Int.reduceLE, Int.reduceLT, Int.reduceToNat, Int.reduceNeg, Int.reduceAdd, Int.reduceSub, Int.reduceEq, reduceIte, reduceCtorEq, UInt8.reduceOfNat, sbT, skI]
  all_goals (first | done | exact Nat.le_refl _ | (simp; done) | (and_intros <;> first | omega | exact Nat.le_refl _ | (simp; done) | (simp; omega)))
def sgCe : Sg := fun f args ls =>
  match f, args, ls with
  | 48, [.lit (.string s)], [] => some (.lit (.int .i64 (skI s.data.toList)), [], s.data.toList.length ≤ 1000000)
  | 23, [.lit (.string s)], [] => some (.lit (.int .i64 (pubV (skI s.data.toList))), [], s.data.toList.length ≤ 1000000)
  | 47, [.lit (.int .i64 z), .agg [.lit (.string a), .lit (.string h), .lit (.int .i64 k), .lit (.int .i64 r), .lit (.int .i64 rt), .lit (.int .i64 fr), .lit (.int .i64 t), .lit (.int .i64 x), .lit (.int .i64 y)]], [] => some (.tup [ctA (issC z ⟨a.data.toList, h.data.toList, k, r, rt, fr, t, x, y⟩), .lit (.int .i64 0)], [], checkE ⟨a.data.toList, h.data.toList, k, r, rt, fr, t, x, y⟩ = 0 ∧ secB z = true)
  | _, _, _ => none
theorem sgCe_ok : SgOK Tryd.prog sgCe := by
  intro f args ls r ls' vc h hvc
  unfold sgCe at h
  split at h <;> first | (simp only [Option.some.injEq, Prod.mk.injEq] at h; obtain ⟨rfl, rfl, rfl⟩ := h) | cases h
  · exact ⟨(fnOK Tryd.func48 (by decide) rfl), tsecret_s _ hvc⟩
  · exact ⟨(fnOK Tryd.func23 (by decide) rfl), holder_s _ hvc⟩
  · exact ⟨(fnOK Tryd.func47 (by decide) rfl), issue_s _ ⟨_, _, _, _, _, _, _, _, _⟩ hvc.1 hvc.2⟩
def crt0 (a h : List UInt8) (role rt fr til : Int) : Ct := ⟨a, h, pubV (skI h), role, rt, fr, til, 0, 0⟩
theorem cert_s (a h : List UInt8) (role rt fr til : Int) (hc : checkE (crt0 a h role rt fr til) = 0) : FnS Tryd.prog 25 [.lit (.string (strB a)), .lit (.string (strB h)), .lit (.int .i64 role), .lit (.int .i64 rt), .lit (.int .i64 fr), .lit (.int .i64 til)] [] (ctA (issC (skI a) (crt0 a h role rt fr til))) [] := by
  have hs := sgCe_ok
  have hk := skI_sec a
  obtain ⟨⟨n1, n2⟩, -⟩ := check_ok hc
  have n1 := (of_decide_eq_true n1).2.1
  have n2 := (of_decide_eq_true n2).2.1
  simp only [crt0] at n1 n2
  have l1 : a.length ≤ 1000000 := by omega
  have l2 : h.length ≤ 1000000 := by omega
  unfold crt0 at hc ⊢
  obtain ⟨z, hz⟩ : ∃ z, issC (skI a) ⟨a, h, pubV (skI h), role, rt, fr, til, 0, 0⟩ = z := ⟨_, rfl⟩
  rw [hz]
  obtain ⟨xi, xh, xk, xr, xrt, xf, xt, xx, xy⟩ := z
  unfold ctA
  refine FnS.of Tryd.func25 rfl (N := 31) rfl (by simp) (by simp) fun X hX => ?_
  simp only [tmArgs, lentH, Nat.reduceAdd]
  refine WA.regionK ty_ok hs fun K hK => ?_
  simp only [go_sem, Nat.reduceAdd, Nat.reduceLT, Nat.reduceLeDiff, Nat.reduceEqDiff, Nat.reduceSub, Nat.reduceMul, Nat.reduceBEq, Nat.reduceBNe, Nat.reducePow, Nat.reduceDiv, Int.reduceLE, Int.reduceLT, Int.reduceToNat, Int.reduceNeg, Int.reduceAdd, Int.reduceSub, Int.reduceEq, reduceIte, reduceCtorEq, UInt8.reduceOfNat, true_and]
  repeat refine And.intro (by first | omega | assumption | (simp; done) | (simp; omega) | (simp +contextual; done) | (simp_all; done) | (simp_all; omega)) ?_
  refine hK _ ?_
  clear hK K
  refine WA.regionK ty_ok hs fun K hK => ?_
  simp only [go_sem, Nat.reduceAdd, Nat.reduceLT, Nat.reduceLeDiff, Nat.reduceEqDiff, Nat.reduceSub, Nat.reduceMul, Nat.reduceBEq, Nat.reduceBNe, Nat.reducePow, Nat.reduceDiv, Int.reduceLE, Int.reduceLT, Int.reduceToNat, Int.reduceNeg, Int.reduceAdd, Int.reduceSub, Int.reduceEq, reduceIte, reduceCtorEq, UInt8.reduceOfNat, sgCe, strB_list, l1, l2, hc, hk, hz, ctA]
  repeat refine And.intro (by first | omega | assumption | (simp; done) | (simp; omega) | (simp +contextual; done) | (simp_all; done) | (simp_all; omega)) ?_
  refine hK _ ?_
  clear hK K
  refine WA.regionK ty_ok hs fun K hK => ?_
  simp only [go_sem, Nat.reduceAdd, Nat.reduceLT, Nat.reduceLeDiff, Nat.reduceEqDiff, Nat.reduceSub, Nat.reduceMul, Nat.reduceBEq, Nat.reduceBNe, Nat.reducePow, Nat.reduceDiv, Int.reduceLE, Int.reduceLT, Int.reduceToNat, Int.reduceNeg, Int.reduceAdd, Int.reduceSub, Int.reduceEq, reduceIte, reduceCtorEq, UInt8.reduceOfNat, true_and]
  repeat refine And.intro (by first | omega | assumption | (simp; done) | (simp; omega) | (simp +contextual; done) | (simp_all; done) | (simp_all; omega)) ?_
  refine hK _ ?_
  clear hK K
  refine WA.retE ty_ok (xs := [.agg [.lit (.string (strB xi)), .lit (.string (strB xh)), .lit (.int .i64 xk), .lit (.int .i64 xr), .lit (.int .i64 xrt), .lit (.int .i64 xf), .lit (.int .i64 xt), .lit (.int .i64 xx), .lit (.int .i64 xy)]]) (ls' := []) (rv := [.cell 12 44]) rfl hX (by decide) (fun _ => rfl) (fun _ _ h => h) ?_
  simp only [go_sem, Nat.reduceAdd, Nat.reduceLT, Nat.reduceLeDiff, Nat.reduceEqDiff, Nat.reduceSub, Nat.reduceMul, Nat.reduceBEq, Nat.reduceBNe, Nat.reducePow, Nat.reduceDiv, Int.reduceLE, Int.reduceLT, Int.reduceToNat, Int.reduceNeg, Int.reduceAdd, Int.reduceSub, Int.reduceEq, reduceIte, reduceCtorEq, UInt8.reduceOfNat, sbT]
  all_goals (first | done | exact Nat.le_refl _ | (simp; done) | (and_intros <;> first | omega | exact Nat.le_refl _ | (simp; done) | (simp; omega)))
end Go.Proofs.YtgmmdijmlnehlaaDoor
