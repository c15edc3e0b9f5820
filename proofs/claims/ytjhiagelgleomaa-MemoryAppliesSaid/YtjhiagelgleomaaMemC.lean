import Derived.Test.YtjhiagelgleomaaMemB
namespace Go.Proofs.Ytjhiagelgleomaa
open Go.RowKit Go.TravelBase Go.TravelAbs
set_option linter.unusedVariables false
set_option linter.unusedSimpArgs false











def sg2 : Sg := fun f args ls =>
  match f, args, ls with
  | 38, [.by_ b], [] => some (.tup [.agg [.lit (.int .i64 (rN b)), .by_ (rR b)], .lit (.bool (rO b))], [], True)
  | _, _, _ => none
theorem sg2_ok : SgOK Try.prog sg2 := by
  intro f args ls r ls' vc h hvc
  unfold sg2 at h
  split at h
  · simp only [Option.some.injEq, Prod.mk.injEq] at h
    obtain ⟨rfl, rfl, rfl⟩ := h
    exact ⟨fnOK Try.func38 (by decide) rfl, read_s _⟩
  · cases h
/-- The newer slot. -/
def nP (a b : List UInt8) : Bool := rO b && (!rO a || decide (rN b > rN a))
def nI (a b : List UInt8) : Int := if nP a b then 1 else 0
def nN (a b : List UInt8) : Int := if nP a b then rN b else rN a
def nR (a b : List UInt8) : List UInt8 := if nP a b then rR b else rR a
def nK (a b : List UInt8) : Bool := if nP a b then true else rO a
theorem newer_s (a b : List UInt8) : FnS Try.prog 32 [.agg [.by_ a, .by_ b]] [] (.tup [.lit (.int .i64 (nI a b)), .agg [.lit (.int .i64 (nN a b)), .by_ (nR a b)], .lit (.bool (nK a b))]) [] := by
  have hs := sg2_ok
  refine FnS.of Try.func32 rfl (N := 38) rfl (by simp) (by simp) fun X hX => ?_
  simp only [tmArgs, lentH, Nat.reduceAdd]
  refine WA.regionK ty_ok hs fun K hK => ?_
  simp only [go_sem, Nat.reduceAdd, Nat.reduceLT, Nat.reduceLeDiff, Nat.reduceEqDiff, Nat.reduceSub, Nat.reduceMul, Nat.reduceBEq, Nat.reduceBNe, Nat.reducePow, Nat.reduceDiv, Int.reduceLE, Int.reduceLT, Int.reduceToNat, Int.reduceNeg, Int.reduceAdd, Int.reduceSub, Int.reduceEq, reduceIte, reduceCtorEq, UInt8.reduceOfNat, sg2]
  first
  | refine hK _ ?_
  | refine And.intro (by first | omega | (simp; done) | (simp; omega) | (simp +contextual; done) | (simp_all; done) | (simp_all; omega)) (hK _ ?_)
  clear hK K
  refine WA.regionK ty_ok hs fun K hK => ?_
  simp only [go_sem, Nat.reduceAdd, Nat.reduceLT, Nat.reduceLeDiff, Nat.reduceEqDiff, Nat.reduceSub, Nat.reduceMul, Nat.reduceBEq, Nat.reduceBNe, Nat.reducePow, Nat.reduceDiv, Int.reduceLE, Int.reduceLT, Int.reduceToNat, Int.reduceNeg, Int.reduceAdd, Int.reduceSub, Int.reduceEq, reduceIte, reduceCtorEq, UInt8.reduceOfNat, sg2]
  first
  | refine hK _ ?_
  | refine And.intro (by first | omega | (simp; done) | (simp; omega) | (simp +contextual; done) | (simp_all; done) | (simp_all; omega)) (hK _ ?_)
  clear hK K
  refine WA.regionK ty_ok hs fun K hK => ?_
  simp only [go_sem, Nat.reduceAdd, Nat.reduceLT, Nat.reduceLeDiff, Nat.reduceEqDiff, Nat.reduceSub, Nat.reduceMul, Nat.reduceBEq, Nat.reduceBNe, Nat.reducePow, Nat.reduceDiv, Int.reduceLE, Int.reduceLT, Int.reduceToNat, Int.reduceNeg, Int.reduceAdd, Int.reduceSub, Int.reduceEq, reduceIte, reduceCtorEq, UInt8.reduceOfNat, sg2]
  first
  | refine hK _ ?_
  | refine And.intro (by first | omega | (simp; done) | (simp; omega) | (simp +contextual; done) | (simp_all; done) | (simp_all; omega)) (hK _ ?_)
  clear hK K
  refine WA.seq ?_
  refine WA.regionK ty_ok hs fun K hK => ?_
  simp only [go_sem, Nat.reduceAdd, Nat.reduceLT, Nat.reduceLeDiff, Nat.reduceEqDiff, Nat.reduceSub, Nat.reduceMul, Nat.reduceBEq, Nat.reduceBNe, Nat.reducePow, Nat.reduceDiv, Int.reduceLE, Int.reduceLT, Int.reduceToNat, Int.reduceNeg, Int.reduceAdd, Int.reduceSub, Int.reduceEq, reduceIte, reduceCtorEq, UInt8.reduceOfNat, sg2]
  first
  | refine hK _ ?_
  | refine And.intro (by first | omega | (simp; done) | (simp; omega) | (simp +contextual; done) | (simp_all; done) | (simp_all; omega)) (hK _ ?_)
  clear hK K
  refine WA.cond rfl (fun h => ?_) (fun h => ?_)
  ·
    have e : nP a b = true := by
      unfold nP
      cases h1 : rO a <;> cases h2 : rO b <;> simp_all
    unfold nI nN nR nK
    rw [e]
    refine WA.drawnK mixed_ ty_ok hs (tbl := [[], [], [0, 1], [0, 1, 2]]) (nb := [0, 2]) (by kernel_rfl) fun K hK => ?_
    simp only [go_sem, Nat.reduceAdd, Nat.reduceLT, Nat.reduceLeDiff, Nat.reduceEqDiff, Nat.reduceSub, Nat.reduceMul, Nat.reduceBEq, Nat.reduceBNe, Nat.reducePow, Nat.reduceDiv, Int.reduceLE, Int.reduceLT, Int.reduceToNat, Int.reduceNeg, Int.reduceAdd, Int.reduceSub, Int.reduceEq, reduceIte, reduceCtorEq, UInt8.reduceOfNat, sg2]
    first
    | refine hK _ ?_
    | refine And.intro (by first | omega | (simp; done) | (simp; omega) | (simp +contextual; done) | (simp_all; done) | (simp_all; omega)) (hK _ ?_)
    clear hK K
    refine WA.retE ty_ok (xs := [.lit (.int .i64 1), .agg [.lit (.int .i64 (rN b)), .by_ (rR b)], .lit (.bool true)]) (ls' := []) (rv := [.tmp 2, .cell 3 57, .tmp 4]) rfl hX (by decide) (fun _ => rfl) (fun _ _ h => h) ?_
    simp only [go_sem, Nat.reduceAdd, Nat.reduceLT, Nat.reduceLeDiff, Nat.reduceEqDiff, Nat.reduceSub, Nat.reduceMul, Nat.reduceBEq, Nat.reduceBNe, Nat.reducePow, Nat.reduceDiv, Int.reduceLE, Int.reduceLT, Int.reduceToNat, Int.reduceNeg, Int.reduceAdd, Int.reduceSub, Int.reduceEq, reduceIte, reduceCtorEq, UInt8.reduceOfNat, sbT]
  · refine WA.skipT ?_
    have e : nP a b = false := by
      unfold nP
      cases h1 : rO a <;> cases h2 : rO b <;> simp_all
    unfold nI nN nR nK
    rw [e]
    refine WA.drawnK mixed_ ty_ok hs (tbl := [[], [], [], [0, 2], [0, 1, 2, 3]]) (nb := [0, 3]) (by kernel_rfl) fun K hK => ?_
    simp only [go_sem, Nat.reduceAdd, Nat.reduceLT, Nat.reduceLeDiff, Nat.reduceEqDiff, Nat.reduceSub, Nat.reduceMul, Nat.reduceBEq, Nat.reduceBNe, Nat.reducePow, Nat.reduceDiv, Int.reduceLE, Int.reduceLT, Int.reduceToNat, Int.reduceNeg, Int.reduceAdd, Int.reduceSub, Int.reduceEq, reduceIte, reduceCtorEq, UInt8.reduceOfNat, sg2]
    first
    | refine hK _ ?_
    | refine And.intro (by first | omega | (simp; done) | (simp; omega) | (simp +contextual; done) | (simp_all; done) | (simp_all; omega)) (hK _ ?_)
    clear hK K
    refine WA.retE ty_ok (xs := [.lit (.int .i64 0), .agg [.lit (.int .i64 (rN a)), .by_ (rR a)], .lit (.bool (rO a))]) (ls' := []) (rv := [.tmp 2, .cell 3 57, .tmp 4]) rfl hX (by decide) (fun _ => rfl) (fun _ _ h => h) ?_
    simp only [go_sem, Nat.reduceAdd, Nat.reduceLT, Nat.reduceLeDiff, Nat.reduceEqDiff, Nat.reduceSub, Nat.reduceMul, Nat.reduceBEq, Nat.reduceBNe, Nat.reducePow, Nat.reduceDiv, Int.reduceLE, Int.reduceLT, Int.reduceToNat, Int.reduceNeg, Int.reduceAdd, Int.reduceSub, Int.reduceEq, reduceIte, reduceCtorEq, UInt8.reduceOfNat, sbT]
end Go.Proofs.Ytjhiagelgleomaa
