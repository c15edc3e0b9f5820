import Derived.Test.YtgmmdijmlnehlaaDoorChH
namespace Go.Proofs.YtgmmdijmlnehlaaDoor
open Go.RowKit Go.TravelBase Go.TravelAbs
set_option linter.unusedVariables false
set_option linter.unusedSimpArgs false



















/-! ### The reader -/
def rdA (d : List UInt8) (p : Nat) (b : Bool) : AV := .agg [.by_ d, .lit (.int .i64 (p : Nat)), .lit (.bool b)]
def tkF (d : List UInt8) (p : Nat) (b : Bool) (n : Nat) : Bool := b || decide (d.length < p + n)
def tkL (d : List UInt8) (p : Nat) (b : Bool) (n : Nat) : List UInt8 := if tkF d p b n = true then [] else (d.drop p).take n
def tkP (d : List UInt8) (p : Nat) (b : Bool) (n : Nat) : Nat := if tkF d p b n = true then p else p + n
theorem tkP_le {d : List UInt8} {p : Nat} {b : Bool} {n : Nat} (h : p ≤ d.length) : tkP d p b n ≤ d.length := by
  unfold tkP
  split
  · exact h
  · rename_i h2
    simp only [tkF, Bool.or_eq_true, decide_eq_true_eq, not_or] at h2
    omega
theorem tkL_len (d : List UInt8) (p : Nat) (b : Bool) (n : Nat) : (tkL d p b n).length ≤ n := by
  unfold tkL
  split
  · simp
  · rw [List.length_take]; omega
theorem take_s (d : List UInt8) (p : Nat) (b : Bool) (n : Nat) (hp : p ≤ d.length) (hd : d.length ≤ 1000) (hn : n ≤ 255) : FnS Tryd.prog 36 [.ptr 0 0 0, .lit (.int .i64 (n : Nat))] [.li 3 [rdA d p b]] (.by_ (tkL d p b n)) [.li 3 [rdA d (tkP d p b n) (tkF d p b n)]] := by
  have hs := sg0_ok
  unfold rdA
  refine FnS.of Tryd.func36 rfl (N := 49) rfl (by simp) (by simp) fun X hX => ?_
  simp only [tmArgs, lentH, Nat.reduceAdd]
  refine WA.regionK ty_ok hs fun K hK => ?_
  simp only [go_sem, Nat.reduceAdd, Nat.reduceLT, Nat.reduceLeDiff, Nat.reduceEqDiff, Nat.reduceSub, Nat.reduceMul, Nat.reduceBEq, Nat.reduceBNe, Nat.reducePow, Nat.reduceDiv, Int.reduceLE, Int.reduceLT, Int.reduceToNat, Int.reduceNeg, Int.reduceAdd, Int.reduceSub, Int.reduceEq, reduceIte, reduceCtorEq, UInt8.reduceOfNat, true_and]
  repeat refine And.intro (by first | omega | assumption | (simp; done) | (simp; omega) | (simp +contextual; done) | (simp_all; done) | (simp_all; omega)) ?_
  refine hK _ ?_
  clear hK K
  refine WA.seq ?_
  refine WA.drawnK mixed_ ty_ok hs (tbl := [[], [0], [0, 1], [0, 1, 2], [0, 1, 2, 3], [0, 1, 2, 3, 4], [0, 1, 2, 3, 4], [0, 1, 2, 3, 4, 6], [0, 1, 2, 3, 4, 6, 7], [0, 1, 2, 3, 4, 6, 7, 8], [0, 1, 2, 3, 4, 6, 7, 8, 9], [0, 1, 2, 3, 4], [0, 1, 2, 3, 4, 11], [0, 1, 2, 3, 4, 11, 12], [0, 1, 2, 3, 4, 11, 12, 13], [0, 1, 2, 3, 4, 6, 7, 8, 9, 10, 11, 12, 13, 14], [0, 1, 2, 3, 4, 5, 6, 7, 8, 9, 10, 11, 12, 13, 14, 15], [0, 1, 2, 3, 4, 5, 6, 7, 8, 9, 10, 11, 12, 13, 14, 15, 16]]) (nb := [3, 9, 14]) (by kernel_rfl) fun K hK => ?_
  simp only [go_sem, Nat.reduceAdd, Nat.reduceLT, Nat.reduceLeDiff, Nat.reduceEqDiff, Nat.reduceSub, Nat.reduceMul, Nat.reduceBEq, Nat.reduceBNe, Nat.reducePow, Nat.reduceDiv, Int.reduceLE, Int.reduceLT, Int.reduceToNat, Int.reduceNeg, Int.reduceAdd, Int.reduceSub, Int.reduceEq, reduceIte, reduceCtorEq, UInt8.reduceOfNat, true_and]
  repeat refine And.intro (by first | omega | assumption | (simp; done) | (simp; omega) | (simp +contextual; done) | (simp_all; done) | (simp_all; omega)) ?_
  refine hK _ ?_
  clear hK K
  refine WA.cond rfl (fun h => ?_) (fun h => ?_)
  ·
    have h : b = true ∨ ((d.length : Nat) : Int) - (p : Nat) < (n : Nat) := by first | (simp only [Bool.and_eq_true, Bool.or_eq_true, Bool.not_eq_true', decide_eq_true_eq, decide_eq_false_iff_not, beq_iff_eq, bne_iff_ne, ne_eq, Bool.not_eq_eq_eq_not, Bool.not_true, Bool.not_false, beq_eq_false_iff_ne, bne_eq_false_iff_eq, Bool.and_eq_false_imp, Bool.or_eq_false_iff, Bool.cond_false_right, Bool.cond_true_left, Bool.cond_false_left, Bool.cond_true_right, gt_iff_lt, ge_iff_le, true_and] at h; first | exact h | omega) | omega | simpa using h
    have e : tkF d p b n = true := by
      simp only [tkF, Bool.or_eq_true, decide_eq_true_eq]
      rcases h with h | h
      · exact .inl h
      · exact .inr (by omega)
    refine WA.regionK ty_ok hs fun K hK => ?_
    simp only [go_sem, Nat.reduceAdd, Nat.reduceLT, Nat.reduceLeDiff, Nat.reduceEqDiff, Nat.reduceSub, Nat.reduceMul, Nat.reduceBEq, Nat.reduceBNe, Nat.reducePow, Nat.reduceDiv, Int.reduceLE, Int.reduceLT, Int.reduceToNat, Int.reduceNeg, Int.reduceAdd, Int.reduceSub, Int.reduceEq, reduceIte, reduceCtorEq, UInt8.reduceOfNat, true_and]
    repeat refine And.intro (by first | omega | assumption | (simp; done) | (simp; omega) | (simp +contextual; done) | (simp_all; done) | (simp_all; omega)) ?_
    refine hK _ ?_
    clear hK K
    refine WA.regionK ty_ok hs fun K hK => ?_
    simp only [go_sem, Nat.reduceAdd, Nat.reduceLT, Nat.reduceLeDiff, Nat.reduceEqDiff, Nat.reduceSub, Nat.reduceMul, Nat.reduceBEq, Nat.reduceBNe, Nat.reducePow, Nat.reduceDiv, Int.reduceLE, Int.reduceLT, Int.reduceToNat, Int.reduceNeg, Int.reduceAdd, Int.reduceSub, Int.reduceEq, reduceIte, reduceCtorEq, UInt8.reduceOfNat, true_and]
    repeat refine And.intro (by first | omega | assumption | (simp; done) | (simp; omega) | (simp +contextual; done) | (simp_all; done) | (simp_all; omega)) ?_
    refine hK _ ?_
    clear hK K
    refine WA.retE ty_ok (xs := [.by_ (tkL d p b n)]) (ls' := [.li 3 [.agg [.by_ d, .lit (.int .i64 (tkP d p b n : Nat)), .lit (.bool (tkF d p b n))]]]) (rv := [.tmp 4]) rfl hX (by simp) (fun _ => rfl) (fun _ _ h => h) ?_
    simp only [go_sem, Nat.reduceAdd, Nat.reduceLT, Nat.reduceLeDiff, Nat.reduceEqDiff, Nat.reduceSub, Nat.reduceMul, Nat.reduceBEq, Nat.reduceBNe, Nat.reducePow, Nat.reduceDiv, Int.reduceLE, Int.reduceLT, Int.reduceToNat, Int.reduceNeg, Int.reduceAdd, Int.reduceSub, Int.reduceEq, reduceIte, reduceCtorEq, UInt8.reduceOfNat, sbT, tkL, tkP, e]
  ·
    with_reducible refine WA.skipN ?_
    repeat first | with_reducible refine WN.t ?_ | with_reducible refine WN.b ?_
    have h : b = false ∧ ¬ ((d.length : Nat) : Int) - (p : Nat) < (n : Nat) := by first | (simp only [Bool.and_eq_true, Bool.or_eq_true, Bool.not_eq_true', decide_eq_true_eq, decide_eq_false_iff_not, beq_iff_eq, bne_iff_ne, ne_eq, Bool.not_eq_eq_eq_not, Bool.not_true, Bool.not_false, beq_eq_false_iff_ne, bne_eq_false_iff_eq, Bool.and_eq_false_imp, Bool.or_eq_false_iff, Bool.cond_false_right, Bool.cond_true_left, Bool.cond_false_left, Bool.cond_true_right, gt_iff_lt, ge_iff_le, true_and] at h; first | exact h | omega) | omega | simpa using h
    obtain ⟨hb, h⟩ := h
    subst hb
    have h : ¬ d.length < p + n := by omega
    have e : tkF d p false n = false := by
      simp only [tkF, Bool.false_or, decide_eq_false_iff_not]
      exact h
    have e1 : ((p : Int) + (n : Int) - (n : Int)).toNat = p := by omega
    have e2 : ((p : Int) + (n : Int)).toNat = p + n := by omega
    have e3 : List.drop p (List.take (p + n) d) = (d.drop p).take n := by
      rw [List.drop_take]
      congr 1
      omega
    have e4 : ((p : Int) + (n : Int)) = ((p + n : Nat) : Int) := by omega
    refine WA.regionK ty_ok hs fun K hK => ?_
    simp only [go_sem, Nat.reduceAdd, Nat.reduceLT, Nat.reduceLeDiff, Nat.reduceEqDiff, Nat.reduceSub, Nat.reduceMul, Nat.reduceBEq, Nat.reduceBNe, Nat.reducePow, Nat.reduceDiv, Int.reduceLE, Int.reduceLT, Int.reduceToNat, Int.reduceNeg, Int.reduceAdd, Int.reduceSub, Int.reduceEq, reduceIte, reduceCtorEq, UInt8.reduceOfNat, true_and]
    repeat refine And.intro (by first | omega | assumption | (simp; done) | (simp; omega) | (simp +contextual; done) | (simp_all; done) | (simp_all; omega)) ?_
    refine hK _ ?_
    clear hK K
    refine WA.drawnK mixed_ ty_ok hs (tbl := [[], [0], [0, 1], [0, 1, 2], [], [4], [4, 5], [4, 5, 6], [], [4, 5, 6, 7, 8], [], [10], [10, 11], [10, 11, 12], [0, 1, 2, 3, 4, 5, 6, 7, 8, 9, 10, 11, 12, 13], [0, 1, 2, 3, 4, 5, 6, 7, 8, 9, 10, 11, 12, 13, 14]]) (nb := [3, 7, 13]) (by kernel_rfl) fun K hK => ?_
    simp only [go_sem, Nat.reduceAdd, Nat.reduceLT, Nat.reduceLeDiff, Nat.reduceEqDiff, Nat.reduceSub, Nat.reduceMul, Nat.reduceBEq, Nat.reduceBNe, Nat.reducePow, Nat.reduceDiv, Int.reduceLE, Int.reduceLT, Int.reduceToNat, Int.reduceNeg, Int.reduceAdd, Int.reduceSub, Int.reduceEq, reduceIte, reduceCtorEq, UInt8.reduceOfNat, e1, e2, e3, Option.getD_some]
    repeat refine And.intro (by first | omega | assumption | (simp; done) | (simp; omega) | (simp +contextual; done) | (simp_all; done) | (simp_all; omega)) ?_
    refine hK _ ?_
    clear hK K
    refine WA.retE ty_ok (xs := [.by_ (tkL d p false n)]) (ls' := [.li 3 [.agg [.by_ d, .lit (.int .i64 (tkP d p false n : Nat)), .lit (.bool (tkF d p false n))]]]) (rv := [.tmp 4]) rfl hX (by simp) (fun _ => rfl) (fun _ _ h => h) ?_
    simp only [go_sem, Nat.reduceAdd, Nat.reduceLT, Nat.reduceLeDiff, Nat.reduceEqDiff, Nat.reduceSub, Nat.reduceMul, Nat.reduceBEq, Nat.reduceBNe, Nat.reducePow, Nat.reduceDiv, Int.reduceLE, Int.reduceLT, Int.reduceToNat, Int.reduceNeg, Int.reduceAdd, Int.reduceSub, Int.reduceEq, reduceIte, reduceCtorEq, UInt8.reduceOfNat, sbT, tkL, tkP, e, e4]
def sgT : Sg := fun f args ls =>
  match f, args, ls with
  | 36, [.ptr 0 0 0, .lit (.int .i64 z)], [.li 3 [.agg [.by_ d, .lit (.int .i64 p), .lit (.bool b)]]] => some (.by_ (tkL d p.toNat b z.toNat), [.li 3 [.agg [.by_ d, .lit (.int .i64 (tkP d p.toNat b z.toNat : Nat)), .lit (.bool (tkF d p.toNat b z.toNat))]]], (0 ≤ z ∧ z ≤ 255) ∧ (0 ≤ p ∧ p ≤ d.length) ∧ d.length ≤ 1000)
  | 58, [.by_ bs], [] => some (.tup [.lit (.int .i64 (numV bs)), .lit (.int .i64 (numE bs))], [], True)
  | _, _, _ => none
theorem sgT_ok : SgOK Tryd.prog sgT := by
  intro f args ls r ls' vc h hvc
  unfold sgT at h
  split at h <;> first | (simp only [Option.some.injEq, Prod.mk.injEq] at h; obtain ⟨rfl, rfl, rfl⟩ := h) | cases h
  · rename_i z d p b
    obtain ⟨⟨z0, z1⟩, ⟨p0, p1⟩, hd⟩ := hvc
    obtain ⟨n, rfl⟩ := Int.eq_ofNat_of_zero_le z0
    obtain ⟨q, rfl⟩ := Int.eq_ofNat_of_zero_le p0
    exact ⟨(fnOK Tryd.func36 (by decide) rfl), take_s d q b n (by omega) hd (by omega)⟩
  · exact ⟨(fnOK Tryd.func58 (by decide) rfl), number_s _⟩
theorem num_s (d : List UInt8) (p : Nat) (b : Bool) (n : Nat) (hp : p ≤ d.length) (hd : d.length ≤ 1000) (hn : n ≤ 255) : FnS Tryd.prog 35 [.ptr 0 0 0, .lit (.int .i64 (n : Nat))] [.li 3 [rdA d p b]] (.lit (.int .i64 (numV (tkL d p b n)))) [.li 3 [rdA d (tkP d p b n) (tkF d p b n)]] := by
  have hs := sgT_ok
  unfold rdA
  refine FnS.of Tryd.func35 rfl (N := 15) rfl (by simp) (by simp) fun X hX => ?_
  simp only [tmArgs, lentH, Nat.reduceAdd]
  refine WA.regionK ty_ok hs fun K hK => ?_
  simp only [go_sem, Nat.reduceAdd, Nat.reduceLT, Nat.reduceLeDiff, Nat.reduceEqDiff, Nat.reduceSub, Nat.reduceMul, Nat.reduceBEq, Nat.reduceBNe, Nat.reducePow, Nat.reduceDiv, Int.reduceLE, Int.reduceLT, Int.reduceToNat, Int.reduceNeg, Int.reduceAdd, Int.reduceSub, Int.reduceEq, reduceIte, reduceCtorEq, UInt8.reduceOfNat, true_and]
  repeat refine And.intro (by first | omega | assumption | (simp; done) | (simp; omega) | (simp +contextual; done) | (simp_all; done) | (simp_all; omega)) ?_
  refine hK _ ?_
  clear hK K
  refine WA.regionK ty_ok hs fun K hK => ?_
  simp only [go_sem, Nat.reduceAdd, Nat.reduceLT, Nat.reduceLeDiff, Nat.reduceEqDiff, Nat.reduceSub, Nat.reduceMul, Nat.reduceBEq, Nat.reduceBNe, Nat.reducePow, Nat.reduceDiv, Int.reduceLE, Int.reduceLT, Int.reduceToNat, Int.reduceNeg, Int.reduceAdd, Int.reduceSub, Int.reduceEq, reduceIte, reduceCtorEq, UInt8.reduceOfNat, sgT, Int.toNat_natCast]
  repeat refine And.intro (by first | omega | assumption | (simp; done) | (simp; omega) | (simp +contextual; done) | (simp_all; done) | (simp_all; omega)) ?_
  refine hK _ ?_
  clear hK K
  refine WA.regionK ty_ok hs fun K hK => ?_
  simp only [go_sem, Nat.reduceAdd, Nat.reduceLT, Nat.reduceLeDiff, Nat.reduceEqDiff, Nat.reduceSub, Nat.reduceMul, Nat.reduceBEq, Nat.reduceBNe, Nat.reducePow, Nat.reduceDiv, Int.reduceLE, Int.reduceLT, Int.reduceToNat, Int.reduceNeg, Int.reduceAdd, Int.reduceSub, Int.reduceEq, reduceIte, reduceCtorEq, UInt8.reduceOfNat, true_and]
  repeat refine And.intro (by first | omega | assumption | (simp; done) | (simp; omega) | (simp +contextual; done) | (simp_all; done) | (simp_all; omega)) ?_
  refine hK _ ?_
  clear hK K
  refine WA.retE ty_ok (xs := [.lit (.int .i64 (numV (tkL d p b n)))]) (ls' := [.li 3 [.agg [.by_ d, .lit (.int .i64 (tkP d p b n : Nat)), .lit (.bool (tkF d p b n))]]]) (rv := [.tmp 4]) rfl hX (by simp) (fun _ => rfl) (fun _ _ h => h) ?_
  simp only [go_sem, Nat.reduceAdd, Nat.reduceLT, Nat.reduceLeDiff, Nat.reduceEqDiff, Nat.reduceSub, Nat.reduceMul, Nat.reduceBEq, Nat.reduceBNe, Nat.reducePow, Nat.reduceDiv, Int.reduceLE, Int.reduceLT, Int.reduceToNat, Int.reduceNeg, Int.reduceAdd, Int.reduceSub, Int.reduceEq, reduceIte, reduceCtorEq, UInt8.reduceOfNat, sbT]
end Go.Proofs.YtgmmdijmlnehlaaDoor
