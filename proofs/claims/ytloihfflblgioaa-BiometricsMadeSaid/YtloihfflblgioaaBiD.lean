import Derived.Test.YtloihfflblgioaaBiC
namespace Go.Proofs.Ytloihfflblgioaa
open Go.RowKit Go.TravelBase Go.TravelAbs
set_option linter.unusedVariables false
set_option linter.unusedSimpArgs false

















/-! ### Numbers as bytes -/
theorem byt_pos {x : Int} (h : 0 ≤ x) : byt x = UInt8.ofNat x.toNat := by
  apply UInt8.toNat_inj.1
  unfold byt
  simp only [UInt8.toNat_ofNat']
  rw [IntKind.wrap_u8]
  omega
theorem byt_to {x : Int} (h : 0 ≤ x) : (byt x).toNat = x.toNat % 256 := by
  rw [byt_pos h]
  simp
theorem back_byt (b : UInt8) : byt (b.toNat : Int) = b := by
  apply UInt8.toNat_inj.1
  rw [byt_to (by omega)]
  have := b.toNat_lt
  omega
theorem byt_mod {x y : Int} (hx : 0 ≤ x) (hy : 0 ≤ y) (h : x % 256 = y % 256) : byt x = byt y := by
  apply UInt8.toNat_inj.1
  rw [byt_to hx, byt_to hy]
  omega
theorem beS_1 (n : Nat) : beS n 1 = [byt n] := by
  simp only [beS, p256, Nat.pow_zero, Nat.div_one]
  rw [byt_pos (by omega)]
  rfl
theorem beS_2 (n : Nat) : beS n 2 = [byt (n / 256 : Nat), byt n] := by
  simp only [beS, p256, Nat.pow_zero, Nat.div_one, Nat.pow_one]
  rw [byt_pos (by omega), byt_pos (by omega)]
  rfl
theorem beS_4 (n : Nat) : beS n 4 = [byt (n / 16777216 : Nat), byt (n / 65536 : Nat), byt (n / 256 : Nat), byt n] := by
  simp only [beS, p256, Nat.pow_zero, Nat.div_one, Nat.pow_one]
  rw [byt_pos (by omega), byt_pos (by omega), byt_pos (by omega), byt_pos (by omega)]
  rfl
theorem octE_0 {n k : Int} (hk : 0 ≤ k ∧ k ≤ 7) (h : 0 ≤ n) (h2 : n < (p256 k.toNat : Nat)) : octE n k = 0 := by
  unfold octE
  rw [if_neg (by omega), if_neg (by omega)]
theorem octL_1 {n : Int} (h : 0 ≤ n) (h2 : n ≤ 255) : octL n 1 = [byt n] ∧ octE n 1 = 0 := by
  have e := octE_0 (n := n) (k := 1) (by omega) h (by simp [p256]; omega)
  refine ⟨?_, e⟩
  unfold octL
  rw [if_pos e]
  show beS _ 1 = _
  rw [beS_1, Int.toNat_of_nonneg h]
theorem octL_2 {n : Int} (h : 0 ≤ n) (h2 : n ≤ 65535) : octL n 2 = [byt (n.fdiv 256), byt n] ∧ octE n 2 = 0 := by
  have e := octE_0 (n := n) (k := 2) (by omega) h (by simp [p256]; omega)
  refine ⟨?_, e⟩
  unfold octL
  rw [if_pos e]
  show beS _ 2 = _
  have e2 : (n.toNat / 256 : Nat) = n.fdiv 256 := by rw [Int.fdiv_eq_ediv_of_nonneg n (by omega)]; omega
  rw [beS_2, e2, Int.toNat_of_nonneg h]
def fourL (n : Int) : List UInt8 := [byt (n.fdiv 16777216), byt (n.fdiv 65536), byt (n.fdiv 256), byt n]
theorem octL_4 {n : Int} (h : 0 ≤ n) (h2 : n ≤ 4294967295) : octL n 4 = fourL n ∧ octE n 4 = 0 := by
  have e := octE_0 (n := n) (k := 4) (by omega) h (by simp [p256]; omega)
  refine ⟨?_, e⟩
  unfold octL
  rw [if_pos e]
  show beS _ 4 = _
  have e2 : (n.toNat / 256 : Nat) = n.fdiv 256 := by rw [Int.fdiv_eq_ediv_of_nonneg n (by omega)]; omega
  have e3 : (n.toNat / 65536 : Nat) = n.fdiv 65536 := by rw [Int.fdiv_eq_ediv_of_nonneg n (by omega)]; omega
  have e4 : (n.toNat / 16777216 : Nat) = n.fdiv 16777216 := by rw [Int.fdiv_eq_ediv_of_nonneg n (by omega)]; omega
  rw [beS_4, e2, e3, e4, Int.toNat_of_nonneg h, fourL]
theorem four_s (n : Int) : FnS Try.prog 46 [.lit (.int .i64 n)] [] (.by_ (fourL n)) [] := by
  have hs := sg0_ok
  refine FnS.of Try.func46 rfl (N := 15) rfl (by simp) (by simp) fun X hX => ?_
  simp only [tmArgs, lentH, Nat.reduceAdd]
  refine WA.regionK ty_ok hs fun K hK => ?_
  simp only [go_sem, Nat.reduceAdd, Nat.reduceLT, Nat.reduceLeDiff, Nat.reduceEqDiff, Nat.reduceSub, Nat.reduceMul, Nat.reduceBEq, Nat.reduceBNe, Nat.reducePow, Nat.reduceDiv, Int.reduceLE, Int.reduceLT, Int.reduceToNat, Int.reduceNeg, Int.reduceAdd, Int.reduceSub, Int.reduceEq, reduceIte, reduceCtorEq, UInt8.reduceOfNat, true_and]
  repeat refine And.intro (by first | omega | assumption | (simp; done) | (simp; omega) | (simp +contextual; done) | (simp_all; done) | (simp_all; omega)) ?_
  refine hK _ ?_
  clear hK K
  refine WA.regionK ty_ok hs fun K hK => ?_
  simp only [go_sem, Nat.reduceAdd, Nat.reduceLT, Nat.reduceLeDiff, Nat.reduceEqDiff, Nat.reduceSub, Nat.reduceMul, Nat.reduceBEq, Nat.reduceBNe, Nat.reducePow, Nat.reduceDiv, Int.reduceLE, Int.reduceLT, Int.reduceToNat, Int.reduceNeg, Int.reduceAdd, Int.reduceSub, Int.reduceEq, reduceIte, reduceCtorEq, UInt8.reduceOfNat, true_and]
  repeat refine And.intro (by first | omega | assumption | (simp; done) | (simp; omega) | (simp +contextual; done) | (simp_all; done) | (simp_all; omega)) ?_
  refine hK _ ?_
  clear hK K
  refine WA.retE ty_ok (xs := [.by_ (fourL n)]) (ls' := []) (rv := [.tmp 2]) rfl hX (by decide) (fun _ => rfl) (fun _ _ h => h) ?_
  simp only [go_sem, Nat.reduceAdd, Nat.reduceLT, Nat.reduceLeDiff, Nat.reduceEqDiff, Nat.reduceSub, Nat.reduceMul, Nat.reduceBEq, Nat.reduceBNe, Nat.reducePow, Nat.reduceDiv, Int.reduceLE, Int.reduceLT, Int.reduceToNat, Int.reduceNeg, Int.reduceAdd, Int.reduceSub, Int.reduceEq, reduceIte, reduceCtorEq, UInt8.reduceOfNat, sbT]
  all_goals rfl

/-! ### Fields -/
def fldL : List AV := [.agg [.lit (.int .i64 129), .lit (.int .i64 1)], .agg [.lit (.int .i64 130), .lit (.int .i64 1)], .agg [.lit (.int .i64 131), .lit (.int .i64 4)], .agg [.lit (.int .i64 132), .lit (.int .i64 4)], .agg [.lit (.int .i64 133), .lit (.int .i64 1)], .agg [.lit (.int .i64 136), .lit (.int .i64 2)]]
def fldT (i : Nat) : Int := [129, 130, 131, 132, 133, 136].getD i 0
def fldS (i : Nat) : Int := [1, 1, 4, 4, 1, 2].getD i 0
theorem fld_at {i : Nat} (h : i < 6) : fldL.getD i .any = .agg [.lit (.int .i64 (fldT i)), .lit (.int .i64 (fldS i))] := by
  rcases (show i = 0 ∨ i = 1 ∨ i = 2 ∨ i = 3 ∨ i = 4 ∨ i = 5 by omega) with rfl | rfl | rfl | rfl | rfl | rfl <;> rfl
theorem Tr_fld : Tr (.li 2 fldL) = True := eq_true (Tr.li fun x hx y hy => by
  simp only [fldL, List.mem_cons, List.not_mem_nil, or_false] at hx
  rcases hx with rfl | rfl | rfl | rfl | rfl | rfl <;> (simp only [AV.cl, List.mem_cons, List.not_mem_nil, or_false] at hy; rcases hy with rfl | rfl <;> exact Tr.lit _))
theorem fields_s : FnS Try.prog 43 [] [] (.li 2 fldL) [] := by
  have hs := sg0_ok
  refine FnS.of Try.func43 rfl (N := 8) rfl (by simp) (by simp) fun X hX => ?_
  simp only [tmArgs, lentH, Nat.reduceAdd]
  refine WA.regionK ty_ok hs fun K hK => ?_
  simp only [go_sem, Nat.reduceAdd, Nat.reduceLT, Nat.reduceLeDiff, Nat.reduceEqDiff, Nat.reduceSub, Nat.reduceMul, Nat.reduceBEq, Nat.reduceBNe, Nat.reducePow, Nat.reduceDiv, Int.reduceLE, Int.reduceLT, Int.reduceToNat, Int.reduceNeg, Int.reduceAdd, Int.reduceSub, Int.reduceEq, reduceIte, reduceCtorEq, UInt8.reduceOfNat, true_and]
  repeat refine And.intro (by first | omega | assumption | (simp; done) | (simp; omega) | (simp +contextual; done) | (simp_all; done) | (simp_all; omega)) ?_
  refine hK _ ?_
  clear hK K
  refine WA.regionK ty_ok hs fun K hK => ?_
  simp only [go_sem, Nat.reduceAdd, Nat.reduceLT, Nat.reduceLeDiff, Nat.reduceEqDiff, Nat.reduceSub, Nat.reduceMul, Nat.reduceBEq, Nat.reduceBNe, Nat.reducePow, Nat.reduceDiv, Int.reduceLE, Int.reduceLT, Int.reduceToNat, Int.reduceNeg, Int.reduceAdd, Int.reduceSub, Int.reduceEq, reduceIte, reduceCtorEq, UInt8.reduceOfNat, true_and]
  repeat refine And.intro (by first | omega | assumption | (simp; done) | (simp; omega) | (simp +contextual; done) | (simp_all; done) | (simp_all; omega)) ?_
  refine hK _ ?_
  clear hK K
  refine WA.retE ty_ok (xs := [.li 2 fldL]) (ls' := []) (rv := [.tmp 0]) rfl hX (by decide) (fun _ => rfl) (fun _ _ h => h) ?_
  simp only [go_sem, Nat.reduceAdd, Nat.reduceLT, Nat.reduceLeDiff, Nat.reduceEqDiff, Nat.reduceSub, Nat.reduceMul, Nat.reduceBEq, Nat.reduceBNe, Nat.reducePow, Nat.reduceDiv, Int.reduceLE, Int.reduceLT, Int.reduceToNat, Int.reduceNeg, Int.reduceAdd, Int.reduceSub, Int.reduceEq, reduceIte, reduceCtorEq, UInt8.reduceOfNat, sbT, fldL]
end Go.Proofs.Ytloihfflblgioaa
