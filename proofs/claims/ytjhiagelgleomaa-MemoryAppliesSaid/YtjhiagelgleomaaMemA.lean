import Derived.Test.YtjhiagelgleomaaCom
namespace Go.Proofs.Ytjhiagelgleomaa
open Go.RowKit Go.TravelBase Go.TravelAbs
set_option linter.unusedVariables false
set_option linter.unusedSimpArgs false











/-! ### memory.image -/
def sgO : Sg := fun f args ls =>
  match f, args, ls with
  | 37, [.lit (.int .i64 n), .lit (.int .i64 k)], [] => some (.tup [.fr (.by_ (octL n k)), .lit (.int .i64 (octE n k))], [], (-9223372036854775808 ≤ n ∧ n ≤ 9223372036854775807) ∧ -9223372036854775808 ≤ k ∧ k ≤ 9223372036854775807)
  | _, _, _ => none
theorem sgO_ok : SgOK Try.prog sgO := by
  intro f args ls r ls' vc h hvc
  unfold sgO at h
  split at h
  · simp only [Option.some.injEq, Prod.mk.injEq] at h
    obtain ⟨rfl, rfl, rfl⟩ := h
    exact ⟨fnOK Try.func37 (by decide) rfl, octets_s _ _ hvc.1 hvc.2⟩
  · cases h
def imgS (n : Int) (rec : List UInt8) : List UInt8 := [1] ++ octL n 6 ++ octL rec.length 2 ++ rec ++ List.replicate (256 - rec.length) 0
theorem image_s (n : Int) (rec : List UInt8) (h0 : 0 ≤ n) (h1 : n < 281474976710656) (h2 : rec.length ≤ 256) : FnS Try.prog 29 [.lit (.int .i64 n), .by_ rec] [] (.fr (.by_ (imgS n rec))) [] := by
  have hs := sgO_ok
  have e6 : octE n 6 = 0 := by
    unfold octE
    have p6 : p256 6 = 281474976710656 := by decide +kernel
    rw [if_neg (by omega), if_neg]
    have : (6 : Int).toNat = 6 := rfl
    rw [this, p6]
    omega
  have l6 : (octL n 6).length = 6 := by unfold octL; rw [if_pos e6, length_beS]; rfl
  have e2 : octE rec.length 2 = 0 := by
    unfold octE
    have p2 : p256 2 = 65536 := by decide +kernel
    rw [if_neg (by omega), if_neg]
    have : (2 : Int).toNat = 2 := rfl
    rw [this, p2]
    omega
  have l2 : (octL rec.length 2).length = 2 := by unfold octL; rw [if_pos e2, length_beS]; rfl
  have t6 : (octL n 6).take 6 = octL n 6 := List.take_of_length_le (by omega)
  have t2 : (octL rec.length 2).take 2 = octL rec.length 2 := List.take_of_length_le (by omega)
  have d6 : (octL n 6).drop 6 = [] := List.drop_eq_nil_of_le (by omega)
  have d2 : (octL rec.length 2).drop 2 = [] := List.drop_eq_nil_of_le (by omega)
  have d8 : (octL n 6).drop 8 = [] := List.drop_eq_nil_of_le (by omega)
  have t8 : (octL n 6).take 8 = octL n 6 := List.take_of_length_le (by omega)
  have hr0 : (List.replicate 265 (0 : UInt8)).set 0 1 = 1 :: List.replicate 264 0 := rfl
  refine FnS.of Try.func29 rfl (N := 35) rfl (by simp) (by simp) fun X hX => ?_
  simp only [tmArgs, lentH, Nat.reduceAdd]
  refine WA.regionK ty_ok hs fun K hK => ?_
  simp only [go_sem, Nat.reduceAdd, Nat.reduceLT, Nat.reduceLeDiff, Nat.reduceEqDiff, Nat.reduceSub, Nat.reduceMul, Nat.reduceBEq, Nat.reduceBNe, Nat.reducePow, Nat.reduceDiv, Int.reduceLE, Int.reduceLT, Int.reduceToNat, Int.reduceNeg, Int.reduceAdd, Int.reduceSub, Int.reduceEq, reduceIte, reduceCtorEq, UInt8.reduceOfNat, sgO]
  first
  | refine hK _ ?_
  | refine And.intro (by first | omega | (simp; done) | (simp; omega) | (simp +contextual; done) | (simp_all; done) | (simp_all; omega)) (hK _ ?_)
  clear hK K
  refine WA.regionK ty_ok hs fun K hK => ?_
  simp only [go_sem, Nat.reduceAdd, Nat.reduceLT, Nat.reduceLeDiff, Nat.reduceEqDiff, Nat.reduceSub, Nat.reduceMul, Nat.reduceBEq, Nat.reduceBNe, Nat.reducePow, Nat.reduceDiv, Int.reduceLE, Int.reduceLT, Int.reduceToNat, Int.reduceNeg, Int.reduceAdd, Int.reduceSub, Int.reduceEq, reduceIte, reduceCtorEq, UInt8.reduceOfNat, sgO]
  first
  | refine hK _ ?_
  | refine And.intro (by first | omega | (simp; done) | (simp; omega) | (simp +contextual; done) | (simp_all; done) | (simp_all; omega)) (hK _ ?_)
  clear hK K
  refine WA.regionK ty_ok hs fun K hK => ?_
  simp only [go_sem, Nat.reduceAdd, Nat.reduceLT, Nat.reduceLeDiff, Nat.reduceEqDiff, Nat.reduceSub, Nat.reduceMul, Nat.reduceBEq, Nat.reduceBNe, Nat.reducePow, Nat.reduceDiv, Int.reduceLE, Int.reduceLT, Int.reduceToNat, Int.reduceNeg, Int.reduceAdd, Int.reduceSub, Int.reduceEq, reduceIte, reduceCtorEq, UInt8.reduceOfNat, sgO]
  first
  | refine hK _ ?_
  | refine And.intro (by first | omega | (simp; done) | (simp; omega) | (simp +contextual; done) | (simp_all; done) | (simp_all; omega)) (hK _ ?_)
  clear hK K
  refine WA.regionK ty_ok hs fun K hK => ?_
  simp only [go_sem, Nat.reduceAdd, Nat.reduceLT, Nat.reduceLeDiff, Nat.reduceEqDiff, Nat.reduceSub, Nat.reduceMul, Nat.reduceBEq, Nat.reduceBNe, Nat.reducePow, Nat.reduceDiv, Int.reduceLE, Int.reduceLT, Int.reduceToNat, Int.reduceNeg, Int.reduceAdd, Int.reduceSub, Int.reduceEq, reduceIte, reduceCtorEq, UInt8.reduceOfNat, sgO]
  first
  | refine hK _ ?_
  | refine And.intro (by first | omega | (simp; done) | (simp; omega) | (simp +contextual; done) | (simp_all; done) | (simp_all; omega)) (hK _ ?_)
  clear hK K
  refine WA.regionK ty_ok hs fun K hK => ?_
  simp only [go_sem, Nat.reduceAdd, Nat.reduceLT, Nat.reduceLeDiff, Nat.reduceEqDiff, Nat.reduceSub, Nat.reduceMul, Nat.reduceBEq, Nat.reduceBNe, Nat.reducePow, Nat.reduceDiv, Int.reduceLE, Int.reduceLT, Int.reduceToNat, Int.reduceNeg, Int.reduceAdd, Int.reduceSub, Int.reduceEq, reduceIte, reduceCtorEq, UInt8.reduceOfNat, sgO, hr0, l6, t6, List.drop_replicate]
  first
  | refine hK _ ?_
  | refine And.intro (by first | omega | (simp; done) | (simp; omega) | (simp +contextual; done) | (simp_all; done) | (simp_all; omega)) (hK _ ?_)
  clear hK K
  refine WA.regionK ty_ok hs fun K hK => ?_
  simp only [go_sem, Nat.reduceAdd, Nat.reduceLT, Nat.reduceLeDiff, Nat.reduceEqDiff, Nat.reduceSub, Nat.reduceMul, Nat.reduceBEq, Nat.reduceBNe, Nat.reducePow, Nat.reduceDiv, Int.reduceLE, Int.reduceLT, Int.reduceToNat, Int.reduceNeg, Int.reduceAdd, Int.reduceSub, Int.reduceEq, reduceIte, reduceCtorEq, UInt8.reduceOfNat, sgO, l2]
  first
  | refine hK _ ?_
  | refine And.intro (by first | omega | (simp; done) | (simp; omega) | (simp +contextual; done) | (simp_all; done) | (simp_all; omega)) (hK _ ?_)
  clear hK K
  refine WA.regionK ty_ok hs fun K hK => ?_
  simp only [go_sem, Nat.reduceAdd, Nat.reduceLT, Nat.reduceLeDiff, Nat.reduceEqDiff, Nat.reduceSub, Nat.reduceMul, Nat.reduceBEq, Nat.reduceBNe, Nat.reducePow, Nat.reduceDiv, Int.reduceLE, Int.reduceLT, Int.reduceToNat, Int.reduceNeg, Int.reduceAdd, Int.reduceSub, Int.reduceEq, reduceIte, reduceCtorEq, UInt8.reduceOfNat, sgO, l2, l6, t6, t2, d6, List.drop_replicate, List.take_append, List.drop_append]
  first
  | refine hK _ ?_
  | refine And.intro (by first | omega | (simp; done) | (simp; omega) | (simp +contextual; done) | (simp_all; done) | (simp_all; omega)) (hK _ ?_)
  clear hK K
  refine WA.regionK ty_ok hs fun K hK => ?_
  simp only [go_sem, Nat.reduceAdd, Nat.reduceLT, Nat.reduceLeDiff, Nat.reduceEqDiff, Nat.reduceSub, Nat.reduceMul, Nat.reduceBEq, Nat.reduceBNe, Nat.reducePow, Nat.reduceDiv, Int.reduceLE, Int.reduceLT, Int.reduceToNat, Int.reduceNeg, Int.reduceAdd, Int.reduceSub, Int.reduceEq, reduceIte, reduceCtorEq, UInt8.reduceOfNat, sgO, l2, l6, t6, t2, d6, d2, d8, t8, h2, List.drop_replicate, List.take_append, List.drop_append]
  first
  | refine hK _ ?_
  | refine And.intro (by first | omega | (simp; done) | (simp; omega) | (simp +contextual; done) | (simp_all; done) | (simp_all; omega)) (hK _ ?_)
  clear hK K
  refine WA.regionK ty_ok hs fun K hK => ?_
  simp only [go_sem, Nat.reduceAdd, Nat.reduceLT, Nat.reduceLeDiff, Nat.reduceEqDiff, Nat.reduceSub, Nat.reduceMul, Nat.reduceBEq, Nat.reduceBNe, Nat.reducePow, Nat.reduceDiv, Int.reduceLE, Int.reduceLT, Int.reduceToNat, Int.reduceNeg, Int.reduceAdd, Int.reduceSub, Int.reduceEq, reduceIte, reduceCtorEq, UInt8.reduceOfNat, sgO]
  first
  | refine hK _ ?_
  | refine And.intro (by first | omega | (simp; done) | (simp; omega) | (simp +contextual; done) | (simp_all; done) | (simp_all; omega)) (hK _ ?_)
  clear hK K
  have he : (1 :: (octL n 6 ++ octL (↑rec.length) 2 ++ rec ++ List.drop (9 + rec.length) (1 :: (octL n 6 ++ octL (↑rec.length) 2 ++ List.replicate 256 0)))) = imgS n rec := by
    have e1 : List.drop (9 + rec.length) (1 :: (octL n 6 ++ octL (↑rec.length) 2 ++ List.replicate 256 0)) = List.replicate (256 - rec.length) 0 := by
      rw [show 9 + rec.length = (8 + rec.length) + 1 by omega, List.drop_succ_cons, List.drop_append, List.drop_eq_nil_of_le (by rw [List.length_append, l6, l2]; omega), List.length_append, l6, l2, List.drop_replicate]
      simp
    rw [e1]
    simp [imgS]
  have hl : (imgS n rec).length = 265 := by simp [imgS, l6, l2]; omega
  refine WA.retE ty_ok (xs := [.fr (.by_ (imgS n rec))]) (ls' := []) (rv := [.tmp 4]) rfl hX (by decide) (fun _ => rfl) (fun _ _ h => h) ?_
  simp only [go_sem, Nat.reduceAdd, Nat.reduceLT, Nat.reduceLeDiff, Nat.reduceEqDiff, Nat.reduceSub, Nat.reduceMul, Nat.reduceBEq, Nat.reduceBNe, Nat.reducePow, Nat.reduceDiv, Int.reduceLE, Int.reduceLT, Int.reduceToNat, Int.reduceNeg, Int.reduceAdd, Int.reduceSub, Int.reduceEq, reduceIte, reduceCtorEq, UInt8.reduceOfNat, he, hl]
end Go.Proofs.Ytjhiagelgleomaa
