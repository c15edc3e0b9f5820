import Derived.Test.YtgmmdijmlnehlaaDoorGrpE
import Derived.Test.YtgmmdijmlnehlaaDoorClone
import Derived.Test.YtgmmdijmlnehlaaDoorDiceA
namespace Go.Proofs.YtgmmdijmlnehlaaDoor
open Go.RowKit Go.TravelBase Go.TravelAbs
set_option linter.unusedVariables false
set_option linter.unusedSimpArgs false



















/-! ### The group, as summaries -/
theorem elt_s (x : Int) : FnS Tryd.prog 50 [.lit (.int .i64 x)] [] (.lit (.bool (eltB x))) [] :=
  FnS.q (fun w S m vs hs hl ha => by
    obtain ⟨v, rfl, h⟩ := arr1 hl ha
    obtain rfl := h.lit_inv
    exact (element_any x w).mono fun e w' ⟨h1, h2⟩ => ⟨h1, 0, h2.symm⟩) rfl fun _ _ _ => .lit _
theorem relt_s (x : Int) : FnS Tryd.prog 29 [.lit (.int .i64 x)] [] (.lit (.bool (eltB x))) [] :=
  FnS.q (fun w S m vs hs hl ha => by
    obtain ⟨v, rfl, h⟩ := arr1 hl ha
    obtain rfl := h.lit_inv
    exact (relement_any x w).mono fun e w' ⟨h1, h2⟩ => ⟨h1, 0, h2.symm⟩) rfl fun _ _ _ => .lit _
theorem rsec_s (x : Int) : FnS Tryd.prog 66 [.lit (.int .i64 x)] [] (.lit (.bool (secB x))) [] :=
  FnS.q (fun w S m vs hs hl ha => by
    obtain ⟨v, rfl, h⟩ := arr1 hl ha
    obtain rfl := h.lit_inv
    exact (rsecret_any x w).mono fun e w' ⟨h1, h2⟩ => ⟨h1, 0, h2.symm⟩) rfl fun _ _ _ => .lit _
theorem rpub_s (x : Int) : FnS Tryd.prog 60 [.lit (.int .i64 x)] [] (.tup [.lit (.int .i64 (pubV x)), .lit (.int .i64 (pubE x))]) [] :=
  FnS.q (fun w S m vs hs hl ha => by
    obtain ⟨v, rfl, h⟩ := arr1 hl ha
    obtain rfl := h.lit_inv
    exact (rpublic_any x w).mono fun e w' ⟨h1, h2⟩ => ⟨h1, 0, h2.symm⟩) rfl fun _ _ _ => tup2_lit _ _
theorem rpow_s (x k : Int) (h1 : 0 ≤ x) (h2 : x < 2147483579) (h3 : 0 ≤ k) (h4 : k ≤ 2147483647) : FnS Tryd.prog 55 [.lit (.int .i64 x), .lit (.int .i64 k)] [] (.lit (.int .i64 (pwI x k))) [] :=
  FnS.q (fun w S m vs hs hl ha => by
    obtain ⟨v, u, rfl, q1, q2⟩ := arr2 hl ha
    obtain rfl := q1.lit_inv
    obtain rfl := q2.lit_inv
    exact (pow_i x k h1 h2 h3 h4 w).mono fun e w' ⟨h1, h2⟩ => ⟨h1, 0, h2.symm⟩) rfl fun _ _ _ => .lit _
theorem genc_s (x : Int) : FnS Tryd.prog 32 [.lit (.int .i64 x)] [] (.tup [.fr (.by_ (encL x)), .lit (.int .i64 (encE x))]) [] :=
  FnS.fr2 (fun w S m vs hs hl ha => by
    obtain ⟨v, rfl, h⟩ := arr1 hl ha
    obtain rfl := h.lit_inv
    exact encode_any x w)
theorem renc_s (x : Int) : FnS Tryd.prog 34 [.lit (.int .i64 x)] [] (.tup [.fr (.by_ (encL x)), .lit (.int .i64 (encE x))]) [] :=
  FnS.fr2 (fun w S m vs hs hl ha => by
    obtain ⟨v, rfl, h⟩ := arr1 hl ha
    obtain rfl := h.lit_inv
    exact rencode_any x w)
theorem gdec_s (bs : List UInt8) : FnS Tryd.prog 37 [.by_ bs] [] (.tup [.lit (.int .i64 (decV bs)), .lit (.int .i64 (decE bs))]) [] :=
  FnS.q (fun w S m vs hs hl ha => by
    obtain ⟨v, rfl, h⟩ := arr1 hl ha
    obtain ⟨A, c, rfl, hr⟩ := Rd_of_VR h hs
    exact (decode_any A _ c bs w hr).mono fun e w' ⟨h1, h2⟩ => ⟨h1, 0, h2.symm⟩) rfl fun _ _ _ => tup2_lit _ _
theorem same_s (xs ys : List UInt8) : FnS Tryd.prog 38 [.by_ xs, .by_ ys] [] (.lit (.bool (decide (xs = ys)))) [] :=
  FnS.q (fun w S m vs hs hl ha => by
    obtain ⟨v, u, rfl, h1, h2⟩ := arr2 hl ha
    obtain ⟨A, c, rfl, hr⟩ := Rd_of_VR h1 hs
    obtain ⟨A', c', rfl, hr'⟩ := Rd_of_VR h2 hs
    exact (same_any A A' _ c _ c' xs ys w hr hr').mono fun e w' ⟨h1, h2⟩ => ⟨h1, 0, h2.symm⟩) rfl fun _ _ _ => .lit _

/-! ### Days -/
def dayB (d : Int) : Bool := decide (0 ≤ d) && decide (d ≤ 73048)
def daysB (a b : Int) : Bool := decide (0 ≤ a) && decide (a ≤ b) && decide (b ≤ 73048)
theorem rday_s (d : Int) : FnS Tryd.prog 30 [.lit (.int .i64 d)] [] (.lit (.bool (dayB d))) [] := by
  have hs := sg0_ok
  refine FnS.of Tryd.func30 rfl (N := 9) rfl (by simp) (by simp) fun X hX => ?_
  simp only [tmArgs, lentH, Nat.reduceAdd]
  refine WA.regionK ty_ok hs fun K hK => ?_
  simp only [go_sem, Nat.reduceAdd, Nat.reduceLT, Nat.reduceLeDiff, Nat.reduceEqDiff, Nat.reduceSub, Nat.reduceMul, Nat.reduceBEq, Nat.reduceBNe, Nat.reducePow, Nat.reduceDiv, Int.reduceLE, Int.reduceLT, Int.reduceToNat, Int.reduceNeg, Int.reduceAdd, Int.reduceSub, Int.reduceEq, reduceIte, reduceCtorEq, UInt8.reduceOfNat, true_and]
  repeat refine And.intro (by first | omega | assumption | (simp; done) | (simp; omega) | (simp +contextual; done) | (simp_all; done) | (simp_all; omega)) ?_
  refine hK _ ?_
  clear hK K
  refine WA.regionK ty_ok hs fun K hK => ?_
  simp only [go_sem, Nat.reduceAdd, Nat.reduceLT, Nat.reduceLeDiff, Nat.reduceEqDiff, Nat.reduceSub, Nat.reduceMul, Nat.reduceBEq, Nat.reduceBNe, Nat.reducePow, Nat.reduceDiv, Int.reduceLE, Int.reduceLT, Int.reduceToNat, Int.reduceNeg, Int.reduceAdd, Int.reduceSub, Int.reduceEq, reduceIte, reduceCtorEq, UInt8.reduceOfNat, true_and]
  repeat refine And.intro (by first | omega | assumption | (simp; done) | (simp; omega) | (simp +contextual; done) | (simp_all; done) | (simp_all; omega)) ?_
  refine hK _ ?_
  clear hK K
  refine WA.retE ty_ok (xs := [.lit (.bool (dayB d))]) (ls' := []) (rv := [.tmp 2]) rfl hX (by decide) (fun _ => rfl) (fun _ _ h => h) ?_
  simp only [go_sem, Nat.reduceAdd, Nat.reduceLT, Nat.reduceLeDiff, Nat.reduceEqDiff, Nat.reduceSub, Nat.reduceMul, Nat.reduceBEq, Nat.reduceBNe, Nat.reducePow, Nat.reduceDiv, Int.reduceLE, Int.reduceLT, Int.reduceToNat, Int.reduceNeg, Int.reduceAdd, Int.reduceSub, Int.reduceEq, reduceIte, reduceCtorEq, UInt8.reduceOfNat, sbT, dayB]
  all_goals (first | done | exact Nat.le_refl _ | (simp; done) | (and_intros <;> first | omega | exact Nat.le_refl _ | (simp; done) | (simp; omega)))
  all_goals (cases hh : decide (0 ≤ d) <;> simp_all)
theorem days_s (a b : Int) : FnS Tryd.prog 51 [.lit (.int .i64 a), .lit (.int .i64 b)] [] (.lit (.bool (daysB a b))) [] := by
  have hs := sg0_ok
  refine FnS.of Tryd.func51 rfl (N := 16) rfl (by simp) (by simp) fun X hX => ?_
  simp only [tmArgs, lentH, Nat.reduceAdd]
  refine WA.regionK ty_ok hs fun K hK => ?_
  simp only [go_sem, Nat.reduceAdd, Nat.reduceLT, Nat.reduceLeDiff, Nat.reduceEqDiff, Nat.reduceSub, Nat.reduceMul, Nat.reduceBEq, Nat.reduceBNe, Nat.reducePow, Nat.reduceDiv, Int.reduceLE, Int.reduceLT, Int.reduceToNat, Int.reduceNeg, Int.reduceAdd, Int.reduceSub, Int.reduceEq, reduceIte, reduceCtorEq, UInt8.reduceOfNat, true_and]
  repeat refine And.intro (by first | omega | assumption | (simp; done) | (simp; omega) | (simp +contextual; done) | (simp_all; done) | (simp_all; omega)) ?_
  refine hK _ ?_
  clear hK K
  refine WA.regionK ty_ok hs fun K hK => ?_
  simp only [go_sem, Nat.reduceAdd, Nat.reduceLT, Nat.reduceLeDiff, Nat.reduceEqDiff, Nat.reduceSub, Nat.reduceMul, Nat.reduceBEq, Nat.reduceBNe, Nat.reducePow, Nat.reduceDiv, Int.reduceLE, Int.reduceLT, Int.reduceToNat, Int.reduceNeg, Int.reduceAdd, Int.reduceSub, Int.reduceEq, reduceIte, reduceCtorEq, UInt8.reduceOfNat, true_and]
  repeat refine And.intro (by first | omega | assumption | (simp; done) | (simp; omega) | (simp +contextual; done) | (simp_all; done) | (simp_all; omega)) ?_
  refine hK _ ?_
  clear hK K
  refine WA.retE ty_ok (xs := [.lit (.bool (daysB a b))]) (ls' := []) (rv := [.tmp 4]) rfl hX (by decide) (fun _ => rfl) (fun _ _ h => h) ?_
  simp only [go_sem, Nat.reduceAdd, Nat.reduceLT, Nat.reduceLeDiff, Nat.reduceEqDiff, Nat.reduceSub, Nat.reduceMul, Nat.reduceBEq, Nat.reduceBNe, Nat.reducePow, Nat.reduceDiv, Int.reduceLE, Int.reduceLT, Int.reduceToNat, Int.reduceNeg, Int.reduceAdd, Int.reduceSub, Int.reduceEq, reduceIte, reduceCtorEq, UInt8.reduceOfNat, sbT, daysB]
  all_goals (first | done | exact Nat.le_refl _ | (simp; done) | (and_intros <;> first | omega | exact Nat.le_refl _ | (simp; done) | (simp; omega)))
  all_goals (cases hh : decide (0 ≤ a) <;> cases hh2 : decide (a ≤ b) <;> simp_all)
end Go.Proofs.YtgmmdijmlnehlaaDoor
