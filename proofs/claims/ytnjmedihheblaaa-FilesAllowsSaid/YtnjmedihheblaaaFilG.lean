import Derived.Test.YtnjmedihheblaaaFilF
import Derived.Test.YtnjmedihheblaaaFilO
namespace Go.Proofs.Ytnjmedihheblaaa
open Go.RowKit Go.TravelBase Go.TravelAbs
set_option linter.unusedVariables false
set_option linter.unusedSimpArgs false











/-! ### The law FilesAllows -/
def sgAl : Sg := fun f args ls =>
  match f, args, ls with
  | 8, [], [] => some (.lit (.bool true), [], True)
  | 9, [.agg [.lit (.int .i64 l), .lit (.int .i64 r)], .agg [.lit (.int .i64 pw), .lit (.bool b1), .lit (.bool ch), .lit (.bool tm), .lit (.int .i64 rg)]], [] => some (.lit (.bool (alw l r ⟨pw, b1, ch, tm, rg⟩)), [], True)
  | 10, [.agg [.lit (.int .i64 l), .lit (.int .i64 r)], .agg [.lit (.int .i64 pw), .lit (.bool b1), .lit (.bool ch), .lit (.bool tm), .lit (.int .i64 rg)]], [] => some (.lit (.bool (alw l r ⟨pw, b1, ch, tm, rg⟩)), [], True)
  | _, _, _ => none
theorem sgAl_ok : SgOK Try.prog sgAl := by
  intro f args ls r ls' vc h hvc
  unfold sgAl at h
  split at h <;> first | (simp only [Option.some.injEq, Prod.mk.injEq] at h; obtain ⟨rfl, rfl, rfl⟩ := h) | cases h
  · exact ⟨(fnOK Try.func8 (by decide) rfl), awake_s⟩
  · rename_i l r pw b1 ch tm rg
    exact ⟨(fnOK Try.func9 (by decide) rfl), allowed_s l r ⟨pw, b1, ch, tm, rg⟩⟩
  · rename_i l r pw b1 ch tm rg
    exact ⟨(fnOK Try.func10 (by decide) rfl), rallowed_s l r ⟨pw, b1, ch, tm, rg⟩⟩
theorem allows_s (x : Acc) (s : Stt) : FnS Try.prog 3 [accA x, sttA s] [] (.lit (.bool true)) [] := by
  have hs := sgAl_ok
  unfold accA sttA
  refine FnS.of Try.func3 rfl (N := 15) rfl (by simp) (by simp) fun X hX => ?_
  simp only [tmArgs, lentH, Nat.reduceAdd]
  refine WA.regionK ty_ok hs fun K hK => ?_
  simp only [go_sem, Nat.reduceAdd, Nat.reduceLT, Nat.reduceLeDiff, Nat.reduceEqDiff, Nat.reduceSub, Nat.reduceMul, Nat.reduceBEq, Nat.reduceBNe, Nat.reducePow, Nat.reduceDiv, Int.reduceLE, Int.reduceLT, Int.reduceToNat, Int.reduceNeg, Int.reduceAdd, Int.reduceSub, Int.reduceEq, reduceIte, reduceCtorEq, UInt8.reduceOfNat, true_and]
  first
  | refine hK _ ?_
  | refine And.intro (by first | omega | (simp; done) | (simp; omega) | (simp +contextual; done) | (simp_all; done) | (simp_all; omega)) (hK _ ?_)
  clear hK K
  refine WA.drawnK mixed_ ty_ok hs (tbl := [[], [0], [0, 1], [0, 1], [0, 1, 2, 3], [0, 1], [0, 1], [0, 1, 2, 3, 4, 5, 6], [0, 1, 2, 3, 4, 5, 6, 7], [0, 1, 2, 3, 4, 5, 6, 7, 8], [0, 1, 2, 3, 4, 5, 6, 7, 8, 9]]) (nb := [0, 2, 3, 4, 5, 6, 7]) (by kernel_rfl) fun K hK => ?_
  simp only [go_sem, Nat.reduceAdd, Nat.reduceLT, Nat.reduceLeDiff, Nat.reduceEqDiff, Nat.reduceSub, Nat.reduceMul, Nat.reduceBEq, Nat.reduceBNe, Nat.reducePow, Nat.reduceDiv, Int.reduceLE, Int.reduceLT, Int.reduceToNat, Int.reduceNeg, Int.reduceAdd, Int.reduceSub, Int.reduceEq, reduceIte, reduceCtorEq, UInt8.reduceOfNat, sgAl]
  first
  | refine hK _ ?_
  | refine And.intro (by first | omega | (simp; done) | (simp; omega) | (simp +contextual; done) | (simp_all; done) | (simp_all; omega)) (hK _ ?_)
  clear hK K
  refine WA.retE ty_ok (xs := [.lit (.bool true)]) (ls' := []) (rv := [.tmp 4]) rfl hX (by decide) (fun _ => rfl) (fun _ _ h => h) ?_
  simp only [go_sem, Nat.reduceAdd, Nat.reduceLT, Nat.reduceLeDiff, Nat.reduceEqDiff, Nat.reduceSub, Nat.reduceMul, Nat.reduceBEq, Nat.reduceBNe, Nat.reducePow, Nat.reduceDiv, Int.reduceLE, Int.reduceLT, Int.reduceToNat, Int.reduceNeg, Int.reduceAdd, Int.reduceSub, Int.reduceEq, reduceIte, reduceCtorEq, UInt8.reduceOfNat, sbT]
  all_goals simp
end Go.Proofs.Ytnjmedihheblaaa
