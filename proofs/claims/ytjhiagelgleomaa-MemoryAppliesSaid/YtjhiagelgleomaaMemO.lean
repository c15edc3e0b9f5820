import Derived.Test.YtjhiagelgleomaaMemN
namespace Go.Proofs.Ytjhiagelgleomaa
open Go.RowKit Go.TravelBase Go.TravelAbs
set_option linter.unusedVariables false
set_option linter.unusedSimpArgs false











def sgX : Sg := fun f args ls =>
  match f, args, ls with
  | 8, [.by_ rec], [] => some (.tup [.agg [.by_ (e0 rec), .by_ (e1 rec)], .lit (.int .i64 (eE rec))], [], True)
  | 9, [.by_ rec], [] => some (.tup [.agg [.by_ (r0 rec), .by_ (e1 rec)], .lit (.int .i64 (eE rec))], [], True)
  | 10, [.agg [.by_ a, .by_ b]], [] => some (.tup [.by_ (lR a b), .lit (.int .i64 (lE a b))], [], True)
  | 11, [.agg [.by_ a, .by_ b]], [] => some (.tup [.by_ (gR a b), .lit (.int .i64 (gE a b))], [], True)
  | 12, [.agg [.by_ a, .by_ b], .by_ rec], [] => some (.tup [.li 3 ((pW a b rec).map wA), .lit (.int .i64 (pE a b rec))], [], True)
  | 13, [.agg [.by_ a, .by_ b], .by_ rec], [] => some (.tup [.li 3 ((qW a b rec).map wA), .lit (.int .i64 (qE a b rec))], [], True)
  | 14, [], [] => some (.lit (.bool true), [], True)
  | 15, [.agg [.by_ a, .by_ b], .agg [.by_ c, .by_ d]], [] => some (.lit (.bool (mS a b c d)), [], True)
  | 16, [.by_ a, .by_ b], [] => some (.lit (.bool (decide (a = b))), [], True)
  | 17, [.li es xs, .li es' ys], [] => some (.lit (.bool (decide (xs.map unA = ys.map unA))), [], (es = 3 ∧ xs = (xs.map unA).map wA) ∧ es' = 3 ∧ ys = (ys.map unA).map wA)
  | _, _, _ => none
theorem sgX_ok : SgOK Try.prog sgX := by
  intro f args ls r ls' vc h hvc
  unfold sgX at h
  split at h <;> first | (simp only [Option.some.injEq, Prod.mk.injEq] at h; obtain ⟨rfl, rfl, rfl⟩ := h) | cases h
  · exact ⟨fnOK Try.func8 (by decide) rfl, empty_s _⟩
  · exact ⟨fnOK Try.func9 (by decide) rfl, rempty_s _⟩
  · exact ⟨fnOK Try.func10 (by decide) rfl, load_s _ _⟩
  · exact ⟨fnOK Try.func11 (by decide) rfl, rload_s _ _⟩
  · exact ⟨fnOK Try.func12 (by decide) rfl, plan_s _ _ _⟩
  · exact ⟨fnOK Try.func13 (by decide) rfl, rplan_s _ _ _⟩
  · exact ⟨fnOK Try.func14 (by decide) rfl, awake_s⟩
  · exact ⟨fnOK Try.func15 (by decide) rfl, same_s _ _ _ _⟩
  · exact ⟨fnOK Try.func16 (by decide) rfl, rsame_s _ _⟩
  · rename_i es xs es' ys
    obtain ⟨⟨rfl, h2⟩, rfl, h3⟩ := hvc
    refine ⟨fnOK Try.func17 (by decide) rfl, ?_⟩
    have := samewrites_s (xs.map unA) (ys.map unA)
    rw [← h2, ← h3] at this
    exact this
theorem exact_s (a b rec : List UInt8) : FnS Try.prog 3 [.agg [.by_ a, .by_ b], .by_ rec] [] (.lit (.bool true)) [] := by
  have hs := sgX_ok
  have l1 := empty_law rec
  have l2 := load_law a b
  have l3 := plan_lawE a b rec
  have l4 := plan_lawW a b rec
  refine FnS.of Try.func3 rfl (N := 80) rfl (by simp) (by simp) fun X hX => ?_
  simp only [tmArgs, lentH, Nat.reduceAdd]
  refine WA.regionK ty_ok hs fun K hK => ?_
  simp only [go_sem, Nat.reduceAdd, Nat.reduceLT, Nat.reduceLeDiff, Nat.reduceEqDiff, Nat.reduceSub, Nat.reduceMul, Nat.reduceBEq, Nat.reduceBNe, Nat.reducePow, Nat.reduceDiv, Int.reduceLE, Int.reduceLT, Int.reduceToNat, Int.reduceNeg, Int.reduceAdd, Int.reduceSub, Int.reduceEq, reduceIte, reduceCtorEq, UInt8.reduceOfNat, sgX]
  first
  | refine hK _ ?_
  | refine And.intro (by first | omega | (simp; done) | (simp; omega) | (simp +contextual; done) | (simp_all; done) | (simp_all; omega)) (hK _ ?_)
  clear hK K
  refine WA.regionK ty_ok hs fun K hK => ?_
  simp only [go_sem, Nat.reduceAdd, Nat.reduceLT, Nat.reduceLeDiff, Nat.reduceEqDiff, Nat.reduceSub, Nat.reduceMul, Nat.reduceBEq, Nat.reduceBNe, Nat.reducePow, Nat.reduceDiv, Int.reduceLE, Int.reduceLT, Int.reduceToNat, Int.reduceNeg, Int.reduceAdd, Int.reduceSub, Int.reduceEq, reduceIte, reduceCtorEq, UInt8.reduceOfNat, sgX]
  first
  | refine hK _ ?_
  | refine And.intro (by first | omega | (simp; done) | (simp; omega) | (simp +contextual; done) | (simp_all; done) | (simp_all; omega)) (hK _ ?_)
  clear hK K
  refine WA.regionK ty_ok hs fun K hK => ?_
  simp only [go_sem, Nat.reduceAdd, Nat.reduceLT, Nat.reduceLeDiff, Nat.reduceEqDiff, Nat.reduceSub, Nat.reduceMul, Nat.reduceBEq, Nat.reduceBNe, Nat.reducePow, Nat.reduceDiv, Int.reduceLE, Int.reduceLT, Int.reduceToNat, Int.reduceNeg, Int.reduceAdd, Int.reduceSub, Int.reduceEq, reduceIte, reduceCtorEq, UInt8.reduceOfNat, sgX]
  first
  | refine hK _ ?_
  | refine And.intro (by first | omega | (simp; done) | (simp; omega) | (simp +contextual; done) | (simp_all; done) | (simp_all; omega)) (hK _ ?_)
  clear hK K
  refine WA.regionK ty_ok hs fun K hK => ?_
  simp only [go_sem, Nat.reduceAdd, Nat.reduceLT, Nat.reduceLeDiff, Nat.reduceEqDiff, Nat.reduceSub, Nat.reduceMul, Nat.reduceBEq, Nat.reduceBNe, Nat.reducePow, Nat.reduceDiv, Int.reduceLE, Int.reduceLT, Int.reduceToNat, Int.reduceNeg, Int.reduceAdd, Int.reduceSub, Int.reduceEq, reduceIte, reduceCtorEq, UInt8.reduceOfNat, sgX]
  first
  | refine hK _ ?_
  | refine And.intro (by first | omega | (simp; done) | (simp; omega) | (simp +contextual; done) | (simp_all; done) | (simp_all; omega)) (hK _ ?_)
  clear hK K
  refine WA.regionK ty_ok hs fun K hK => ?_
  simp only [go_sem, Nat.reduceAdd, Nat.reduceLT, Nat.reduceLeDiff, Nat.reduceEqDiff, Nat.reduceSub, Nat.reduceMul, Nat.reduceBEq, Nat.reduceBNe, Nat.reducePow, Nat.reduceDiv, Int.reduceLE, Int.reduceLT, Int.reduceToNat, Int.reduceNeg, Int.reduceAdd, Int.reduceSub, Int.reduceEq, reduceIte, reduceCtorEq, UInt8.reduceOfNat, sgX]
  first
  | refine hK _ ?_
  | refine And.intro (by first | omega | (simp; done) | (simp; omega) | (simp +contextual; done) | (simp_all; done) | (simp_all; omega)) (hK _ ?_)
  clear hK K
  refine WA.regionK ty_ok hs fun K hK => ?_
  simp only [go_sem, Nat.reduceAdd, Nat.reduceLT, Nat.reduceLeDiff, Nat.reduceEqDiff, Nat.reduceSub, Nat.reduceMul, Nat.reduceBEq, Nat.reduceBNe, Nat.reducePow, Nat.reduceDiv, Int.reduceLE, Int.reduceLT, Int.reduceToNat, Int.reduceNeg, Int.reduceAdd, Int.reduceSub, Int.reduceEq, reduceIte, reduceCtorEq, UInt8.reduceOfNat, sgX, Tr_wr]
  first
  | refine hK _ ?_
  | refine And.intro (by first | omega | (simp; done) | (simp; omega) | (simp +contextual; done) | (simp_all; done) | (simp_all; omega)) (hK _ ?_)
  clear hK K
  refine WA.regionK ty_ok hs fun K hK => ?_
  simp only [go_sem, Nat.reduceAdd, Nat.reduceLT, Nat.reduceLeDiff, Nat.reduceEqDiff, Nat.reduceSub, Nat.reduceMul, Nat.reduceBEq, Nat.reduceBNe, Nat.reducePow, Nat.reduceDiv, Int.reduceLE, Int.reduceLT, Int.reduceToNat, Int.reduceNeg, Int.reduceAdd, Int.reduceSub, Int.reduceEq, reduceIte, reduceCtorEq, UInt8.reduceOfNat, sgX, Tr_wr]
  first
  | refine hK _ ?_
  | refine And.intro (by first | omega | (simp; done) | (simp; omega) | (simp +contextual; done) | (simp_all; done) | (simp_all; omega)) (hK _ ?_)
  clear hK K
  refine WA.regionK ty_ok hs fun K hK => ?_
  simp only [go_sem, Nat.reduceAdd, Nat.reduceLT, Nat.reduceLeDiff, Nat.reduceEqDiff, Nat.reduceSub, Nat.reduceMul, Nat.reduceBEq, Nat.reduceBNe, Nat.reducePow, Nat.reduceDiv, Int.reduceLE, Int.reduceLT, Int.reduceToNat, Int.reduceNeg, Int.reduceAdd, Int.reduceSub, Int.reduceEq, reduceIte, reduceCtorEq, UInt8.reduceOfNat, sgX, Tr_wr, un_map, l1, l2.1, l2.2, l3, l4, mS]
  first
  | refine hK _ ?_
  | refine And.intro (by first | omega | (simp; done) | (simp; omega) | (simp +contextual; done) | (simp_all; done) | (simp_all; omega)) (hK _ ?_)
  clear hK K
  refine WA.retE ty_ok (xs := [.lit (.bool true)]) (ls' := []) (rv := [.tmp 4]) rfl hX (by decide) (fun _ => rfl) (fun _ _ h => h) ?_
  simp only [go_sem, Nat.reduceAdd, Nat.reduceLT, Nat.reduceLeDiff, Nat.reduceEqDiff, Nat.reduceSub, Nat.reduceMul, Nat.reduceBEq, Nat.reduceBNe, Nat.reducePow, Nat.reduceDiv, Int.reduceLE, Int.reduceLT, Int.reduceToNat, Int.reduceNeg, Int.reduceAdd, Int.reduceSub, Int.reduceEq, reduceIte, reduceCtorEq, UInt8.reduceOfNat, sbT]
end Go.Proofs.Ytjhiagelgleomaa
