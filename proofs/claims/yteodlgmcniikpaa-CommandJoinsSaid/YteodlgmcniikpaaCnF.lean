import Derived.Test.YteodlgmcniikpaaCnE
namespace Go.Proofs.Yteodlgmcniikpaa
open Go.RowKit Go.TravelBase Go.TravelAbs
set_option linter.unusedVariables false
set_option linter.unusedSimpArgs false

















def sgSm : Sg := fun f args ls =>
  match f, args, ls with
  | 16, [.by_ a, .by_ b], [] => some (.lit (.bool (decide (a = b))), [], True)
  | _, _, _ => none
theorem sgSm_ok : SgOK Try.prog sgSm := by
  intro f args ls r ls' vc h hvc
  unfold sgSm at h
  split at h <;> first | (simp only [Option.some.injEq, Prod.mk.injEq] at h; obtain ⟨rfl, rfl, rfl⟩ := h) | cases h
  exact ⟨(fnOK Try.func16 (by decide) rfl), rsame_s _ _⟩
def samC (a b : Cm) : Bool := decide (a.cls = b.cls ∧ a.ins = b.ins ∧ a.p1 = b.p1 ∧ a.p2 = b.p2 ∧ a.exp = b.exp ∧ a.data = b.data)
theorem samC_t (a b : Cm) : (samC a b = true) = (a.cls = b.cls ∧ a.ins = b.ins ∧ a.p1 = b.p1 ∧ a.p2 = b.p2 ∧ a.exp = b.exp ∧ a.data = b.data) := propext decide_eq_true_iff
theorem samC_self (a : Cm) : samC a a = true := decide_eq_true ⟨rfl, rfl, rfl, rfl, rfl, rfl⟩
theorem samC_eq {a b : Cm} : (samC a b = true) = (a = b) := by
  rw [samC_t]
  obtain ⟨a1, a2, a3, a4, a5, a6⟩ := a
  obtain ⟨b1, b2, b3, b4, b5, b6⟩ := b
  simp only [Cm.mk.injEq, eq_iff_iff]
  constructor
  · rintro ⟨q1, q2, q3, q4, q5, q6⟩; exact ⟨q1, q2, q3, q4, q6, q5⟩
  · rintro ⟨q1, q2, q3, q4, q5, q6⟩; exact ⟨q1, q2, q3, q4, q6, q5⟩
theorem same_s (a b : Cm) : FnS Try.prog 17 [.agg [.lit (.int .i64 a.cls), .lit (.int .i64 a.ins), .lit (.int .i64 a.p1), .lit (.int .i64 a.p2), .by_ a.data, .lit (.int .i64 a.exp)], .agg [.lit (.int .i64 b.cls), .lit (.int .i64 b.ins), .lit (.int .i64 b.p1), .lit (.int .i64 b.p2), .by_ b.data, .lit (.int .i64 b.exp)]] [] (.lit (.bool (samC a b))) [] := by
  have hs := sgSm_ok
  refine FnS.of Try.func17 rfl (N := 45) rfl (by simp) (by simp) fun X hX => ?_
  simp only [tmArgs, lentH, Nat.reduceAdd]
  refine WA.regionK ty_ok hs fun K hK => ?_
  simp only [go_sem, Nat.reduceAdd, Nat.reduceLT, Nat.reduceLeDiff, Nat.reduceEqDiff, Nat.reduceSub, Nat.reduceMul, Nat.reduceBEq, Nat.reduceBNe, Nat.reducePow, Nat.reduceDiv, Int.reduceLE, Int.reduceLT, Int.reduceToNat, Int.reduceNeg, Int.reduceAdd, Int.reduceSub, Int.reduceEq, reduceIte, reduceCtorEq, UInt8.reduceOfNat, true_and]
  first
  | refine hK _ ?_
  | refine And.intro (by first | omega | (simp; done) | (simp; omega) | (simp +contextual; done) | (simp_all; done) | (simp_all; omega)) (hK _ ?_)
  clear hK K
  refine WA.regionK ty_ok hs fun K hK => ?_
  simp only [go_sem, Nat.reduceAdd, Nat.reduceLT, Nat.reduceLeDiff, Nat.reduceEqDiff, Nat.reduceSub, Nat.reduceMul, Nat.reduceBEq, Nat.reduceBNe, Nat.reducePow, Nat.reduceDiv, Int.reduceLE, Int.reduceLT, Int.reduceToNat, Int.reduceNeg, Int.reduceAdd, Int.reduceSub, Int.reduceEq, reduceIte, reduceCtorEq, UInt8.reduceOfNat, sgSm]
  first
  | refine hK _ ?_
  | refine And.intro (by first | omega | (simp; done) | (simp; omega) | (simp +contextual; done) | (simp_all; done) | (simp_all; omega)) (hK _ ?_)
  clear hK K
  refine WA.retE ty_ok (xs := [.lit (.bool (samC a b))]) (ls' := []) (rv := [.tmp 4]) rfl hX (by decide) (fun _ => rfl) (fun _ _ h => h) ?_
  simp only [go_sem, Nat.reduceAdd, Nat.reduceLT, Nat.reduceLeDiff, Nat.reduceEqDiff, Nat.reduceSub, Nat.reduceMul, Nat.reduceBEq, Nat.reduceBNe, Nat.reducePow, Nat.reduceDiv, Int.reduceLE, Int.reduceLT, Int.reduceToNat, Int.reduceNeg, Int.reduceAdd, Int.reduceSub, Int.reduceEq, reduceIte, reduceCtorEq, UInt8.reduceOfNat, sbT]
  all_goals (rw [Bool.eq_iff_iff, samC_t]; simp only [Bool.and_eq_true, decide_eq_true_eq, beq_iff_eq, Bool.cond_false_right, and_assoc])
def sgAw : Sg := fun f args ls =>
  match f, args, ls with
  | 9, [.agg [.lit (.int .i64 a), .lit (.int .i64 b), .lit (.int .i64 c), .lit (.int .i64 d), .by_ e, .lit (.int .i64 x)]], [] => some (.tup [.by_ (encV ⟨a, b, c, d, e, x⟩), .lit (.int .i64 (encE ⟨a, b, c, d, e, x⟩))], [], True)
  | 11, [.by_ b], [] => some (.tup [.agg [.lit (.int .i64 (decV b).cls), .lit (.int .i64 (decV b).ins), .lit (.int .i64 (decV b).p1), .lit (.int .i64 (decV b).p2), .by_ (decV b).data, .lit (.int .i64 (decV b).exp)], .lit (.int .i64 (decE b))], [], b.length ≤ 9223372036854775807)
  | _, _, _ => none
theorem sgAw_ok : SgOK Try.prog sgAw := by
  intro f args ls r ls' vc h hvc
  unfold sgAw at h
  split at h <;> first | (simp only [Option.some.injEq, Prod.mk.injEq] at h; obtain ⟨rfl, rfl, rfl⟩ := h) | cases h
  · rename_i a b c d e x
    exact ⟨(fnOK Try.func9 (by decide) rfl), encode_s ⟨a, b, c, d, e, x⟩⟩
  · exact ⟨(fnOK Try.func11 (by decide) rfl), decode_s _ hvc⟩
theorem awake_s : FnS Try.prog 13 [] [] (.lit (.bool true)) [] := by
  have hs := sgAw_ok
  have e1 : encE ⟨0, 164, 4, 12, [7], -1⟩ = 0 := by decide
  have e2 : (encV ⟨0, 164, 4, 12, [7], -1⟩).length = 6 := by decide
  have e3 : decE [0, 176, 0, 0, 0] = 0 := by decide
  have e4 : (decV [0, 176, 0, 0, 0]).exp = 256 := by decide
  refine FnS.of Try.func13 rfl (N := 32) rfl (by simp) (by simp) fun X hX => ?_
  simp only [tmArgs, lentH, Nat.reduceAdd]
  refine WA.regionK ty_ok hs fun K hK => ?_
  simp only [go_sem, Nat.reduceAdd, Nat.reduceLT, Nat.reduceLeDiff, Nat.reduceEqDiff, Nat.reduceSub, Nat.reduceMul, Nat.reduceBEq, Nat.reduceBNe, Nat.reducePow, Nat.reduceDiv, Int.reduceLE, Int.reduceLT, Int.reduceToNat, Int.reduceNeg, Int.reduceAdd, Int.reduceSub, Int.reduceEq, reduceIte, reduceCtorEq, UInt8.reduceOfNat, true_and]
  first
  | refine hK _ ?_
  | refine And.intro (by first | omega | (simp; done) | (simp; omega) | (simp +contextual; done) | (simp_all; done) | (simp_all; omega)) (hK _ ?_)
  clear hK K
  refine WA.regionK ty_ok hs fun K hK => ?_
  simp only [go_sem, Nat.reduceAdd, Nat.reduceLT, Nat.reduceLeDiff, Nat.reduceEqDiff, Nat.reduceSub, Nat.reduceMul, Nat.reduceBEq, Nat.reduceBNe, Nat.reducePow, Nat.reduceDiv, Int.reduceLE, Int.reduceLT, Int.reduceToNat, Int.reduceNeg, Int.reduceAdd, Int.reduceSub, Int.reduceEq, reduceIte, reduceCtorEq, UInt8.reduceOfNat, sgAw, e1, e2]
  first
  | refine hK _ ?_
  | refine And.intro (by first | omega | (simp; done) | (simp; omega) | (simp +contextual; done) | (simp_all; done) | (simp_all; omega)) (hK _ ?_)
  clear hK K
  refine WA.regionK ty_ok hs fun K hK => ?_
  simp only [go_sem, Nat.reduceAdd, Nat.reduceLT, Nat.reduceLeDiff, Nat.reduceEqDiff, Nat.reduceSub, Nat.reduceMul, Nat.reduceBEq, Nat.reduceBNe, Nat.reducePow, Nat.reduceDiv, Int.reduceLE, Int.reduceLT, Int.reduceToNat, Int.reduceNeg, Int.reduceAdd, Int.reduceSub, Int.reduceEq, reduceIte, reduceCtorEq, UInt8.reduceOfNat, sgAw, e3, e4]
  first
  | refine hK _ ?_
  | refine And.intro (by first | omega | (simp; done) | (simp; omega) | (simp +contextual; done) | (simp_all; done) | (simp_all; omega)) (hK _ ?_)
  clear hK K
  refine WA.regionK ty_ok hs fun K hK => ?_
  simp only [go_sem, Nat.reduceAdd, Nat.reduceLT, Nat.reduceLeDiff, Nat.reduceEqDiff, Nat.reduceSub, Nat.reduceMul, Nat.reduceBEq, Nat.reduceBNe, Nat.reducePow, Nat.reduceDiv, Int.reduceLE, Int.reduceLT, Int.reduceToNat, Int.reduceNeg, Int.reduceAdd, Int.reduceSub, Int.reduceEq, reduceIte, reduceCtorEq, UInt8.reduceOfNat, true_and, e2]
  first
  | refine hK _ ?_
  | refine And.intro (by first | omega | (simp; done) | (simp; omega) | (simp +contextual; done) | (simp_all; done) | (simp_all; omega)) (hK _ ?_)
  clear hK K
  refine WA.retE ty_ok (xs := [.lit (.bool true)]) (ls' := []) (rv := [.tmp 0]) rfl hX (by decide) (fun _ => rfl) (fun _ _ h => h) ?_
  simp only [go_sem, Nat.reduceAdd, Nat.reduceLT, Nat.reduceLeDiff, Nat.reduceEqDiff, Nat.reduceSub, Nat.reduceMul, Nat.reduceBEq, Nat.reduceBNe, Nat.reducePow, Nat.reduceDiv, Int.reduceLE, Int.reduceLT, Int.reduceToNat, Int.reduceNeg, Int.reduceAdd, Int.reduceSub, Int.reduceEq, reduceIte, reduceCtorEq, UInt8.reduceOfNat, sbT, e2]
  all_goals (first | done | exact Nat.le_refl _ | (simp; done) | (and_intros <;> first | omega | exact Nat.le_refl _ | (simp; done) | (simp; omega)))
def sgEx : Sg := fun f args ls =>
  match f, args, ls with
  | 9, [.agg [.lit (.int .i64 a), .lit (.int .i64 b), .lit (.int .i64 c), .lit (.int .i64 d), .by_ e, .lit (.int .i64 x)]], [] => some (.tup [.by_ (encV ⟨a, b, c, d, e, x⟩), .lit (.int .i64 (encE ⟨a, b, c, d, e, x⟩))], [], True)
  | 10, [.agg [.lit (.int .i64 a), .lit (.int .i64 b), .lit (.int .i64 c), .lit (.int .i64 d), .by_ e, .lit (.int .i64 x)]], [] => some (.tup [.by_ (encV ⟨a, b, c, d, e, x⟩), .lit (.int .i64 (encE ⟨a, b, c, d, e, x⟩))], [], True)
  | 11, [.by_ b], [] => some (.tup [.agg [.lit (.int .i64 (decV b).cls), .lit (.int .i64 (decV b).ins), .lit (.int .i64 (decV b).p1), .lit (.int .i64 (decV b).p2), .by_ (decV b).data, .lit (.int .i64 (decV b).exp)], .lit (.int .i64 (decE b))], [], b.length ≤ 9223372036854775807)
  | 12, [.by_ b], [] => some (.tup [.agg [.lit (.int .i64 (decV b).cls), .lit (.int .i64 (decV b).ins), .lit (.int .i64 (decV b).p1), .lit (.int .i64 (decV b).p2), .by_ (decV b).data, .lit (.int .i64 (decV b).exp)], .lit (.int .i64 (decE b))], [], b.length ≤ 9223372036854775807)
  | _, _, _ => none
theorem sgEx_ok : SgOK Try.prog sgEx := by
  intro f args ls r ls' vc h hvc
  unfold sgEx at h
  split at h <;> first | (simp only [Option.some.injEq, Prod.mk.injEq] at h; obtain ⟨rfl, rfl, rfl⟩ := h) | cases h
  · rename_i a b c d e x
    exact ⟨(fnOK Try.func9 (by decide) rfl), encode_s ⟨a, b, c, d, e, x⟩⟩
  · rename_i a b c d e x
    exact ⟨(fnOK Try.func10 (by decide) rfl), rencode_s ⟨a, b, c, d, e, x⟩⟩
  · exact ⟨(fnOK Try.func11 (by decide) rfl), decode_s _ hvc⟩
  · exact ⟨(fnOK Try.func12 (by decide) rfl), rdecode_s _ hvc⟩
def sgEy : Sg := fun f args ls =>
  match f, args, ls with
  | 13, [], [] => some (.lit (.bool true), [], True)
  | 14, [.agg [.lit (.int .i64 a), .lit (.int .i64 b), .lit (.int .i64 c), .lit (.int .i64 d), .by_ e, .lit (.int .i64 x)]], [] => some (.lit (.bool (valC ⟨a, b, c, d, e, x⟩)), [], True)
  | 15, [.agg [.lit (.int .i64 a), .lit (.int .i64 b), .lit (.int .i64 c), .lit (.int .i64 d), .by_ e, .lit (.int .i64 x)]], [] => some (.lit (.bool (valC ⟨a, b, c, d, e, x⟩)), [], True)
  | 16, [.by_ a, .by_ b], [] => some (.lit (.bool (decide (a = b))), [], True)
  | 17, [.agg [.lit (.int .i64 a), .lit (.int .i64 b), .lit (.int .i64 c), .lit (.int .i64 d), .by_ e, .lit (.int .i64 x)], .agg [.lit (.int .i64 a2), .lit (.int .i64 b2), .lit (.int .i64 c2), .lit (.int .i64 d2), .by_ e2, .lit (.int .i64 x2)]], [] => some (.lit (.bool (samC ⟨a, b, c, d, e, x⟩ ⟨a2, b2, c2, d2, e2, x2⟩)), [], True)
  | _, _, _ => none
theorem sgEy_ok : SgOK Try.prog sgEy := by
  intro f args ls r ls' vc h hvc
  unfold sgEy at h
  split at h <;> first | (simp only [Option.some.injEq, Prod.mk.injEq] at h; obtain ⟨rfl, rfl, rfl⟩ := h) | cases h
  · exact ⟨(fnOK Try.func13 (by decide) rfl), awake_s⟩
  · rename_i a b c d e x
    exact ⟨(fnOK Try.func14 (by decide) rfl), valid_s ⟨a, b, c, d, e, x⟩⟩
  · rename_i a b c d e x
    exact ⟨(fnOK Try.func15 (by decide) rfl), rvalid_s ⟨a, b, c, d, e, x⟩⟩
  · exact ⟨(fnOK Try.func16 (by decide) rfl), rsame_s _ _⟩
  · rename_i a b c d e x a2 b2 c2 d2 e2 x2
    exact ⟨(fnOK Try.func17 (by decide) rfl), same_s ⟨a, b, c, d, e, x⟩ ⟨a2, b2, c2, d2, e2, x2⟩⟩
theorem exact_s (c : Cm) (b : List UInt8) (hb : b.length ≤ 9223372036854775807) : FnS Try.prog 3 [.agg [.lit (.int .i64 c.cls), .lit (.int .i64 c.ins), .lit (.int .i64 c.p1), .lit (.int .i64 c.p2), .by_ c.data, .lit (.int .i64 c.exp)], .by_ b] [] (.lit (.bool true)) [] := by
  have hs := sgEx_ok
  have hC : (⟨c.cls, c.ins, c.p1, c.p2, c.data, c.exp⟩ : Cm) = c := rfl
  have hD : (⟨(decV b).cls, (decV b).ins, (decV b).p1, (decV b).p2, (decV b).data, (decV b).exp⟩ : Cm) = decV b := rfl
  refine FnS.of Try.func3 rfl (N := 61) rfl (by simp) (by simp) fun X hX => ?_
  simp only [tmArgs, lentH, Nat.reduceAdd]
  refine WA.regionK ty_ok hs fun K hK => ?_
  simp only [go_sem, Nat.reduceAdd, Nat.reduceLT, Nat.reduceLeDiff, Nat.reduceEqDiff, Nat.reduceSub, Nat.reduceMul, Nat.reduceBEq, Nat.reduceBNe, Nat.reducePow, Nat.reduceDiv, Int.reduceLE, Int.reduceLT, Int.reduceToNat, Int.reduceNeg, Int.reduceAdd, Int.reduceSub, Int.reduceEq, reduceIte, reduceCtorEq, UInt8.reduceOfNat, true_and]
  first
  | refine hK _ ?_
  | refine And.intro (by first | omega | (simp; done) | (simp; omega) | (simp +contextual; done) | (simp_all; done) | (simp_all; omega)) (hK _ ?_)
  clear hK K
  refine WA.regionK ty_ok hs fun K hK => ?_
  simp only [go_sem, Nat.reduceAdd, Nat.reduceLT, Nat.reduceLeDiff, Nat.reduceEqDiff, Nat.reduceSub, Nat.reduceMul, Nat.reduceBEq, Nat.reduceBNe, Nat.reducePow, Nat.reduceDiv, Int.reduceLE, Int.reduceLT, Int.reduceToNat, Int.reduceNeg, Int.reduceAdd, Int.reduceSub, Int.reduceEq, reduceIte, reduceCtorEq, UInt8.reduceOfNat, sgEx, hC]
  first
  | refine hK _ ?_
  | refine And.intro (by first | omega | (simp; done) | (simp; omega) | (simp +contextual; done) | (simp_all; done) | (simp_all; omega)) (hK _ ?_)
  clear hK K
  refine WA.regionK ty_ok hs fun K hK => ?_
  simp only [go_sem, Nat.reduceAdd, Nat.reduceLT, Nat.reduceLeDiff, Nat.reduceEqDiff, Nat.reduceSub, Nat.reduceMul, Nat.reduceBEq, Nat.reduceBNe, Nat.reducePow, Nat.reduceDiv, Int.reduceLE, Int.reduceLT, Int.reduceToNat, Int.reduceNeg, Int.reduceAdd, Int.reduceSub, Int.reduceEq, reduceIte, reduceCtorEq, UInt8.reduceOfNat, sgEx, hC]
  first
  | refine hK _ ?_
  | refine And.intro (by first | omega | (simp; done) | (simp; omega) | (simp +contextual; done) | (simp_all; done) | (simp_all; omega)) (hK _ ?_)
  clear hK K
  refine WA.regionK ty_ok hs fun K hK => ?_
  simp only [go_sem, Nat.reduceAdd, Nat.reduceLT, Nat.reduceLeDiff, Nat.reduceEqDiff, Nat.reduceSub, Nat.reduceMul, Nat.reduceBEq, Nat.reduceBNe, Nat.reducePow, Nat.reduceDiv, Int.reduceLE, Int.reduceLT, Int.reduceToNat, Int.reduceNeg, Int.reduceAdd, Int.reduceSub, Int.reduceEq, reduceIte, reduceCtorEq, UInt8.reduceOfNat, sgEx, hb]
  first
  | refine hK _ ?_
  | refine And.intro (by first | omega | (simp; done) | (simp; omega) | (simp +contextual; done) | (simp_all; done) | (simp_all; omega)) (hK _ ?_)
  clear hK K
  refine WA.regionK ty_ok hs fun K hK => ?_
  simp only [go_sem, Nat.reduceAdd, Nat.reduceLT, Nat.reduceLeDiff, Nat.reduceEqDiff, Nat.reduceSub, Nat.reduceMul, Nat.reduceBEq, Nat.reduceBNe, Nat.reducePow, Nat.reduceDiv, Int.reduceLE, Int.reduceLT, Int.reduceToNat, Int.reduceNeg, Int.reduceAdd, Int.reduceSub, Int.reduceEq, reduceIte, reduceCtorEq, UInt8.reduceOfNat, sgEx, hb]
  first
  | refine hK _ ?_
  | refine And.intro (by first | omega | (simp; done) | (simp; omega) | (simp +contextual; done) | (simp_all; done) | (simp_all; omega)) (hK _ ?_)
  clear hK K
  have hs := sgEy_ok
  refine WA.drawnK mixed_ ty_ok hs (tbl := [[], [0], [0, 1], [0, 1, 2], [0, 1], [0, 1, 2, 3, 4], [0, 1, 2, 3, 4, 5], [0, 1, 2, 3, 4, 5, 6], [0, 1, 2, 3, 4, 5, 6, 7], [0, 1, 2, 3, 4, 5, 6, 7, 8], [0, 1, 2, 3, 4, 5, 6, 7, 8], [0, 1, 2, 3, 4, 5, 6, 7, 8, 9, 10], [0, 1, 2, 3, 4, 5, 6, 7, 8, 9, 10, 11], [0, 1, 2, 3, 4, 5, 6, 7, 8, 9, 10, 11, 12], [0, 1, 2, 3, 4, 5, 6, 7, 8, 9, 10, 11, 12, 13], [0, 1, 2, 3, 4, 5, 6, 7, 8, 9, 10, 11, 12, 13], [0, 1, 2, 3, 4, 5, 6, 7, 8, 9, 10, 11, 12, 13, 14, 15], [0, 1, 2, 3, 4, 5, 6, 7, 8, 9, 10, 11, 12, 13, 14, 15, 16], [0, 1, 2, 3, 4, 5, 6, 7, 8, 9, 10, 11, 12, 13, 14, 15, 16, 17], [0, 1, 2, 3, 4, 5, 6, 7, 8, 9, 10, 11, 12, 13, 14, 15, 16, 17, 18], [0, 1, 2, 3, 4, 5, 6, 7, 8, 9, 10, 11, 12, 13, 14, 15, 16, 17, 18], [0, 1, 2, 3, 4, 5, 6, 7, 8, 9, 10, 11, 12, 13, 14, 15, 16, 17, 18, 19, 20], [0, 1, 2, 3, 4, 5, 6, 7, 8, 9, 10, 11, 12, 13, 14, 15, 16, 17, 18, 19, 20, 21], [0, 1, 2, 3, 4, 5, 6, 7, 8, 9, 10, 11, 12, 13, 14, 15, 16, 17, 18, 19, 20, 21, 22], [0, 1, 2, 3, 4, 5, 6, 7, 8, 9, 10, 11, 12, 13, 14, 15, 16, 17, 18, 19, 20, 21, 22, 23], [0, 1, 2, 3, 4, 5, 6, 7, 8, 9, 10, 11, 12, 13, 14, 15, 16, 17, 18, 19, 20, 21, 22, 23], [0, 1, 2, 3, 4, 5, 6, 7, 8, 9, 10, 11, 12, 13, 14, 15, 16, 17, 18, 19, 20, 21, 22, 23, 24, 25], [0, 1, 2, 3, 4, 5, 6, 7, 8, 9, 10, 11, 12, 13, 14, 15, 16, 17, 18, 19, 20, 21, 22, 23, 24, 25, 26], [0, 1, 2, 3, 4, 5, 6, 7, 8, 9, 10, 11, 12, 13, 14, 15, 16, 17, 18, 19, 20, 21, 22, 23, 24, 25, 26, 27]]) (nb := [0, 2, 3, 4, 5, 16, 24, 25, 26]) (by kernel_rfl) fun K hK => ?_
  simp only [go_sem, Nat.reduceAdd, Nat.reduceLT, Nat.reduceLeDiff, Nat.reduceEqDiff, Nat.reduceSub, Nat.reduceMul, Nat.reduceBEq, Nat.reduceBNe, Nat.reducePow, Nat.reduceDiv, Int.reduceLE, Int.reduceLT, Int.reduceToNat, Int.reduceNeg, Int.reduceAdd, Int.reduceSub, Int.reduceEq, reduceIte, reduceCtorEq, UInt8.reduceOfNat, sgEy, hC, hD, samC_self]
  first
  | refine hK _ ?_
  | refine And.intro (by first | omega | (simp; done) | (simp; omega) | (simp +contextual; done) | (simp_all; done) | (simp_all; omega)) (hK _ ?_)
  clear hK K
  refine WA.retE ty_ok (xs := [.lit (.bool true)]) (ls' := []) (rv := [.tmp 4]) rfl hX (by decide) (fun _ => rfl) (fun _ _ h => h) ?_
  simp only [go_sem, Nat.reduceAdd, Nat.reduceLT, Nat.reduceLeDiff, Nat.reduceEqDiff, Nat.reduceSub, Nat.reduceMul, Nat.reduceBEq, Nat.reduceBNe, Nat.reducePow, Nat.reduceDiv, Int.reduceLE, Int.reduceLT, Int.reduceToNat, Int.reduceNeg, Int.reduceAdd, Int.reduceSub, Int.reduceEq, reduceIte, reduceCtorEq, UInt8.reduceOfNat, sbT]
  all_goals (first | done | exact Nat.le_refl _ | (simp; done) | (and_intros <;> first | omega | exact Nat.le_refl _ | (simp; done) | (simp; omega)))
end Go.Proofs.Yteodlgmcniikpaa
