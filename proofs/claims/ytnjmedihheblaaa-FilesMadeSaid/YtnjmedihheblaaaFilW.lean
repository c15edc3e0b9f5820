import Derived.Test.YtnjmedihheblaaaFilV
import Derived.Test.YtnjmedihheblaaaFilO
namespace Go.Proofs.Ytnjmedihheblaaa
open Go.RowKit Go.TravelBase Go.TravelAbs
set_option linter.unusedVariables false
set_option linter.unusedSimpArgs false












/-! ### exact and the law FilesExact -/

def sgEa : Sg := fun f args ls =>
  match f, args, ls with
  | 29, [.agg [.li 5 xs, .li 2 ys], .agg [.lit (.int .i64 a), .lit (.int .i64 b)], .lit (.int .i64 z)], [] => some (.tup [.agg [.lit (.int .i64 (fndA (idF z) (xs.map unF) (ys.map unP) a b)), .lit (.int .i64 (fndF (idF z) (xs.map unF) (ys.map unP) a b))], .lit (.int .i64 (fndE (idF z) (xs.map unF) (ys.map unP) a b))], [], xs = (xs.map unF).map flA ∧ ys = (ys.map unP).map apA)
  | 34, [.agg [.li 5 xs, .li 2 ys], .agg [.lit (.int .i64 a), .lit (.int .i64 b)], .lit (.int .i64 z)], [] => some (.tup [.agg [.lit (.int .i64 (fndA (idF z) (xs.map unF) (ys.map unP) a b)), .lit (.int .i64 (fndF (idF z) (xs.map unF) (ys.map unP) a b))], .lit (.int .i64 (fndE (idF z) (xs.map unF) (ys.map unP) a b))], [], xs = (xs.map unF).map flA ∧ ys = (ys.map unP).map apA)
  | 18, [.agg [.li 5 xs, .li 2 ys], .agg [.lit (.int .i64 a), .lit (.int .i64 b)], .lit (.int .i64 z)], [] => some (.tup [.agg [.lit (.int .i64 (fndA (shortF z) (xs.map unF) (ys.map unP) a b)), .lit (.int .i64 (fndF (shortF z) (xs.map unF) (ys.map unP) a b))], .lit (.int .i64 (fndE (shortF z) (xs.map unF) (ys.map unP) a b))], [], xs = (xs.map unF).map flA ∧ ys = (ys.map unP).map apA)
  | 35, [.agg [.li 5 xs, .li 2 ys], .agg [.lit (.int .i64 a), .lit (.int .i64 b)], .lit (.int .i64 z)], [] => some (.tup [.agg [.lit (.int .i64 (fndA (shortF z) (xs.map unF) (ys.map unP) a b)), .lit (.int .i64 (fndF (shortF z) (xs.map unF) (ys.map unP) a b))], .lit (.int .i64 (fndE (shortF z) (xs.map unF) (ys.map unP) a b))], [], xs = (xs.map unF).map flA ∧ ys = (ys.map unP).map apA)
  | _, _, _ => none
theorem sgEa_ok : SgOK Try.prog sgEa := by
  intro f args ls r ls' vc h hvc
  unfold sgEa at h
  split at h <;> first | (simp only [Option.some.injEq, Prod.mk.injEq] at h; obtain ⟨rfl, rfl, rfl⟩ := h) | cases h
  · rename_i xs ys a b z
    refine ⟨(fnOK Try.func29 (by decide) rfl), ?_⟩
    have := id_s (xs.map unF) (ys.map unP) a b z
    rw [← hvc.1, ← hvc.2] at this
    exact this
  · rename_i xs ys a b z
    refine ⟨(fnOK Try.func34 (by decide) rfl), ?_⟩
    have := rid_s (xs.map unF) (ys.map unP) a b z
    rw [← hvc.1, ← hvc.2] at this
    exact this
  · rename_i xs ys a b z
    refine ⟨(fnOK Try.func18 (by decide) rfl), ?_⟩
    have := short_s (xs.map unF) (ys.map unP) a b z
    rw [← hvc.1, ← hvc.2] at this
    exact this
  · rename_i xs ys a b z
    refine ⟨(fnOK Try.func35 (by decide) rfl), ?_⟩
    have := rshort_s (xs.map unF) (ys.map unP) a b z
    rw [← hvc.1, ← hvc.2] at this
    exact this
def sgEb : Sg := fun f args ls =>
  match f, args, ls with
  | 36, [.agg [.li 5 xs, .li 2 ys], .agg [.lit (.int .i64 a), .lit (.int .i64 b)]], [] => some (.tup [.agg [.lit (.int .i64 (selF (xs.map unF) (ys.map unP) a b).level), .lit (.int .i64 (selF (xs.map unF) (ys.map unP) a b).right)], .lit (.int .i64 (selE (xs.map unF) (ys.map unP) a b))], [], xs = (xs.map unF).map flA ∧ ys = (ys.map unP).map apA)
  | 37, [.agg [.li 5 xs, .li 2 ys], .agg [.lit (.int .i64 a), .lit (.int .i64 b)]], [] => some (.tup [.agg [.lit (.int .i64 (selF (xs.map unF) (ys.map unP) a b).level), .lit (.int .i64 (selF (xs.map unF) (ys.map unP) a b).right)], .lit (.int .i64 (selE (xs.map unF) (ys.map unP) a b))], [], xs = (xs.map unF).map flA ∧ ys = (ys.map unP).map apA)
  | 19, [.agg [.li 5 xs, .li 2 ys], .agg [.lit (.int .i64 a), .lit (.int .i64 b)], .agg [.lit (.int .i64 pw), .lit (.bool b1), .lit (.bool ch), .lit (.bool tm), .lit (.int .i64 rg)], .lit (.int .i64 o), .lit (.int .i64 n)], [] => some (.tup [.by_ (rdB (xs.map unF) (ys.map unP) a b ⟨pw, b1, ch, tm, rg⟩ o n), .lit (.bool (rdN (xs.map unF) (ys.map unP) a b ⟨pw, b1, ch, tm, rg⟩ o n)), .lit (.int .i64 (rdE (xs.map unF) (ys.map unP) a b ⟨pw, b1, ch, tm, rg⟩ o n))], [], xs = (xs.map unF).map flA ∧ ys = (ys.map unP).map apA)
  | 28, [.agg [.li 5 xs, .li 2 ys], .agg [.lit (.int .i64 a), .lit (.int .i64 b)], .agg [.lit (.int .i64 pw), .lit (.bool b1), .lit (.bool ch), .lit (.bool tm), .lit (.int .i64 rg)], .lit (.int .i64 o), .lit (.int .i64 n)], [] => some (.tup [.by_ (rdB (xs.map unF) (ys.map unP) a b ⟨pw, b1, ch, tm, rg⟩ o n), .lit (.bool (rdN (xs.map unF) (ys.map unP) a b ⟨pw, b1, ch, tm, rg⟩ o n)), .lit (.int .i64 (rdE (xs.map unF) (ys.map unP) a b ⟨pw, b1, ch, tm, rg⟩ o n))], [], xs = (xs.map unF).map flA ∧ ys = (ys.map unP).map apA)
  | _, _, _ => none
theorem sgEb_ok : SgOK Try.prog sgEb := by
  intro f args ls r ls' vc h hvc
  unfold sgEb at h
  split at h <;> first | (simp only [Option.some.injEq, Prod.mk.injEq] at h; obtain ⟨rfl, rfl, rfl⟩ := h) | cases h
  · rename_i xs ys a b
    refine ⟨(fnOK Try.func36 (by decide) rfl), ?_⟩
    have := access_s (xs.map unF) (ys.map unP) a b
    rw [← hvc.1, ← hvc.2] at this
    exact this
  · rename_i xs ys a b
    refine ⟨(fnOK Try.func37 (by decide) rfl), ?_⟩
    have := raccess_s (xs.map unF) (ys.map unP) a b
    rw [← hvc.1, ← hvc.2] at this
    exact this
  · rename_i xs ys a b pw b1 ch tm rg o n
    refine ⟨(fnOK Try.func19 (by decide) rfl), ?_⟩
    have := read_s (xs.map unF) (ys.map unP) a b ⟨pw, b1, ch, tm, rg⟩ o n
    rw [← hvc.1, ← hvc.2] at this
    exact this
  · rename_i xs ys a b pw b1 ch tm rg o n
    refine ⟨(fnOK Try.func28 (by decide) rfl), ?_⟩
    have := rread_s (xs.map unF) (ys.map unP) a b ⟨pw, b1, ch, tm, rg⟩ o n
    rw [← hvc.1, ← hvc.2] at this
    exact this
def sgEx : Sg := fun f args ls =>
  match f, args, ls with
  | 8, [], [] => some (.lit (.bool true), [], True)
  | 20, [.by_ a, .by_ b], [] => some (.lit (.bool (decide (a = b))), [], True)
  | 38, [.agg [.li 5 xs, .li 2 ys]], [] => some (.lit (.int .i64 (val (xs.map unF) (ys.map unP))), [], xs = (xs.map unF).map flA ∧ ys = (ys.map unP).map apA)
  | 39, [.agg [.li 5 xs, .li 2 ys]], [] => some (.lit (.int .i64 (val (xs.map unF) (ys.map unP))), [], xs = (xs.map unF).map flA ∧ ys = (ys.map unP).map apA)
  | _, _, _ => none
theorem sgEx_ok : SgOK Try.prog sgEx := by
  intro f args ls r ls' vc h hvc
  unfold sgEx at h
  split at h <;> first | (simp only [Option.some.injEq, Prod.mk.injEq] at h; obtain ⟨rfl, rfl, rfl⟩ := h) | cases h
  · exact ⟨(fnOK Try.func8 (by decide) rfl), awake_s⟩
  · exact ⟨(fnOK Try.func20 (by decide) rfl), rsame_s _ _⟩
  · rename_i xs ys
    refine ⟨(fnOK Try.func38 (by decide) rfl), ?_⟩
    have := valid_s (xs.map unF) (ys.map unP)
    rw [← hvc.1, ← hvc.2] at this
    exact this
  · rename_i xs ys
    refine ⟨(fnOK Try.func39 (by decide) rfl), ?_⟩
    have := rvalid_s (xs.map unF) (ys.map unP)
    rw [← hvc.1, ← hvc.2] at this
    exact this
set_option maxRecDepth 20000 in
set_option maxHeartbeats 4000000 in
theorem ex_s (root : List Fl) (apps : List Fap) (a f : Int) (s : Stt) (n : Int) : FnS Try.prog 21 [.agg [.li 5 (root.map flA), .li 2 (apps.map apA)], .agg [.lit (.int .i64 a), .lit (.int .i64 f)], .agg [.lit (.int .i64 s.pw), .lit (.bool s.b1), .lit (.bool s.chip), .lit (.bool s.term), .lit (.int .i64 s.rights)], .lit (.int .i64 n)] [] (.lit (.bool true)) [] := by
  have hs := sgEa_ok
  have hS : (⟨s.pw, s.b1, s.chip, s.term, s.rights⟩ : Stt) = s := rfl
  refine FnS.of Try.func21 rfl (N := 138) rfl (by simp) (by simp) fun X hX => ?_
  simp only [tmArgs, lentH, Nat.reduceAdd]
  refine WA.regionK ty_ok hs fun K hK => ?_
  simp only [go_sem, Nat.reduceAdd, Nat.reduceLT, Nat.reduceLeDiff, Nat.reduceEqDiff, Nat.reduceSub, Nat.reduceMul, Nat.reduceBEq, Nat.reduceBNe, Nat.reducePow, Nat.reduceDiv, Int.reduceLE, Int.reduceLT, Int.reduceToNat, Int.reduceNeg, Int.reduceAdd, Int.reduceSub, Int.reduceEq, reduceIte, reduceCtorEq, UInt8.reduceOfNat, true_and]
  first
  | refine hK _ ?_
  | refine And.intro (by first | omega | (simp; done) | (simp; omega) | (simp +contextual; done) | (simp_all; done) | (simp_all; omega)) (hK _ ?_)
  clear hK K
  refine WA.regionK ty_ok hs fun K hK => ?_
  simp only [go_sem, Nat.reduceAdd, Nat.reduceLT, Nat.reduceLeDiff, Nat.reduceEqDiff, Nat.reduceSub, Nat.reduceMul, Nat.reduceBEq, Nat.reduceBNe, Nat.reducePow, Nat.reduceDiv, Int.reduceLE, Int.reduceLT, Int.reduceToNat, Int.reduceNeg, Int.reduceAdd, Int.reduceSub, Int.reduceEq, reduceIte, reduceCtorEq, UInt8.reduceOfNat, sgEa, Tr_fls, Tr_aps, un_fls, un_aps, hS]
  first
  | refine hK _ ?_
  | refine And.intro (by first | omega | (simp; done) | (simp; omega) | (simp +contextual; done) | (simp_all; done) | (simp_all; omega)) (hK _ ?_)
  clear hK K
  refine WA.regionK ty_ok hs fun K hK => ?_
  simp only [go_sem, Nat.reduceAdd, Nat.reduceLT, Nat.reduceLeDiff, Nat.reduceEqDiff, Nat.reduceSub, Nat.reduceMul, Nat.reduceBEq, Nat.reduceBNe, Nat.reducePow, Nat.reduceDiv, Int.reduceLE, Int.reduceLT, Int.reduceToNat, Int.reduceNeg, Int.reduceAdd, Int.reduceSub, Int.reduceEq, reduceIte, reduceCtorEq, UInt8.reduceOfNat, sgEa, Tr_fls, Tr_aps, un_fls, un_aps, hS]
  first
  | refine hK _ ?_
  | refine And.intro (by first | omega | (simp; done) | (simp; omega) | (simp +contextual; done) | (simp_all; done) | (simp_all; omega)) (hK _ ?_)
  clear hK K
  refine WA.regionK ty_ok hs fun K hK => ?_
  simp only [go_sem, Nat.reduceAdd, Nat.reduceLT, Nat.reduceLeDiff, Nat.reduceEqDiff, Nat.reduceSub, Nat.reduceMul, Nat.reduceBEq, Nat.reduceBNe, Nat.reducePow, Nat.reduceDiv, Int.reduceLE, Int.reduceLT, Int.reduceToNat, Int.reduceNeg, Int.reduceAdd, Int.reduceSub, Int.reduceEq, reduceIte, reduceCtorEq, UInt8.reduceOfNat, sgEa, Tr_fls, Tr_aps, un_fls, un_aps, hS]
  first
  | refine hK _ ?_
  | refine And.intro (by first | omega | (simp; done) | (simp; omega) | (simp +contextual; done) | (simp_all; done) | (simp_all; omega)) (hK _ ?_)
  clear hK K
  refine WA.regionK ty_ok hs fun K hK => ?_
  simp only [go_sem, Nat.reduceAdd, Nat.reduceLT, Nat.reduceLeDiff, Nat.reduceEqDiff, Nat.reduceSub, Nat.reduceMul, Nat.reduceBEq, Nat.reduceBNe, Nat.reducePow, Nat.reduceDiv, Int.reduceLE, Int.reduceLT, Int.reduceToNat, Int.reduceNeg, Int.reduceAdd, Int.reduceSub, Int.reduceEq, reduceIte, reduceCtorEq, UInt8.reduceOfNat, sgEa, Tr_fls, Tr_aps, un_fls, un_aps, hS]
  first
  | refine hK _ ?_
  | refine And.intro (by first | omega | (simp; done) | (simp; omega) | (simp +contextual; done) | (simp_all; done) | (simp_all; omega)) (hK _ ?_)
  clear hK K
  have hs := sgEb_ok
  refine WA.regionK ty_ok hs fun K hK => ?_
  simp only [go_sem, Nat.reduceAdd, Nat.reduceLT, Nat.reduceLeDiff, Nat.reduceEqDiff, Nat.reduceSub, Nat.reduceMul, Nat.reduceBEq, Nat.reduceBNe, Nat.reducePow, Nat.reduceDiv, Int.reduceLE, Int.reduceLT, Int.reduceToNat, Int.reduceNeg, Int.reduceAdd, Int.reduceSub, Int.reduceEq, reduceIte, reduceCtorEq, UInt8.reduceOfNat, sgEb, Tr_fls, Tr_aps, un_fls, un_aps, hS]
  first
  | refine hK _ ?_
  | refine And.intro (by first | omega | (simp; done) | (simp; omega) | (simp +contextual; done) | (simp_all; done) | (simp_all; omega)) (hK _ ?_)
  clear hK K
  refine WA.regionK ty_ok hs fun K hK => ?_
  simp only [go_sem, Nat.reduceAdd, Nat.reduceLT, Nat.reduceLeDiff, Nat.reduceEqDiff, Nat.reduceSub, Nat.reduceMul, Nat.reduceBEq, Nat.reduceBNe, Nat.reducePow, Nat.reduceDiv, Int.reduceLE, Int.reduceLT, Int.reduceToNat, Int.reduceNeg, Int.reduceAdd, Int.reduceSub, Int.reduceEq, reduceIte, reduceCtorEq, UInt8.reduceOfNat, sgEb, Tr_fls, Tr_aps, un_fls, un_aps, hS]
  first
  | refine hK _ ?_
  | refine And.intro (by first | omega | (simp; done) | (simp; omega) | (simp +contextual; done) | (simp_all; done) | (simp_all; omega)) (hK _ ?_)
  clear hK K
  refine WA.regionK ty_ok hs fun K hK => ?_
  simp only [go_sem, Nat.reduceAdd, Nat.reduceLT, Nat.reduceLeDiff, Nat.reduceEqDiff, Nat.reduceSub, Nat.reduceMul, Nat.reduceBEq, Nat.reduceBNe, Nat.reducePow, Nat.reduceDiv, Int.reduceLE, Int.reduceLT, Int.reduceToNat, Int.reduceNeg, Int.reduceAdd, Int.reduceSub, Int.reduceEq, reduceIte, reduceCtorEq, UInt8.reduceOfNat, sgEb, Tr_fls, Tr_aps, un_fls, un_aps, hS]
  first
  | refine hK _ ?_
  | refine And.intro (by first | omega | (simp; done) | (simp; omega) | (simp +contextual; done) | (simp_all; done) | (simp_all; omega)) (hK _ ?_)
  clear hK K
  refine WA.regionK ty_ok hs fun K hK => ?_
  simp only [go_sem, Nat.reduceAdd, Nat.reduceLT, Nat.reduceLeDiff, Nat.reduceEqDiff, Nat.reduceSub, Nat.reduceMul, Nat.reduceBEq, Nat.reduceBNe, Nat.reducePow, Nat.reduceDiv, Int.reduceLE, Int.reduceLT, Int.reduceToNat, Int.reduceNeg, Int.reduceAdd, Int.reduceSub, Int.reduceEq, reduceIte, reduceCtorEq, UInt8.reduceOfNat, sgEb, Tr_fls, Tr_aps, un_fls, un_aps, hS]
  first
  | refine hK _ ?_
  | refine And.intro (by first | omega | (simp; done) | (simp; omega) | (simp +contextual; done) | (simp_all; done) | (simp_all; omega)) (hK _ ?_)
  clear hK K
  have hs := sgEx_ok
  refine WA.drawnK mixed_ ty_ok hs (tbl := [[], [0], [0, 1], [0, 1, 2], [0, 1], [0, 1, 2, 3, 4], [0, 1, 2, 3, 4, 5], [0, 1, 2, 3, 4, 5, 6], [0, 1, 2, 3, 4, 5, 6, 7], [0, 1, 2, 3, 4, 5, 6, 7, 8], [0, 1, 2, 3, 4, 5, 6, 7, 8], [0, 1, 2, 3, 4, 5, 6, 7, 8, 9, 10], [0, 1, 2, 3, 4, 5, 6, 7, 8, 9, 10, 11], [0, 1, 2, 3, 4, 5, 6, 7, 8, 9, 10, 11, 12], [0, 1, 2, 3, 4, 5, 6, 7, 8, 9, 10, 11, 12, 13], [0, 1, 2, 3, 4, 5, 6, 7, 8, 9, 10, 11, 12, 13], [0, 1, 2, 3, 4, 5, 6, 7, 8, 9, 10, 11, 12, 13, 14, 15], [0, 1, 2, 3, 4, 5, 6, 7, 8, 9, 10, 11, 12, 13, 14, 15, 16], [0, 1, 2, 3, 4, 5, 6, 7, 8, 9, 10, 11, 12, 13, 14, 15, 16, 17], [0, 1, 2, 3, 4, 5, 6, 7, 8, 9, 10, 11, 12, 13, 14, 15, 16, 17, 18], [0, 1, 2, 3, 4, 5, 6, 7, 8, 9, 10, 11, 12, 13, 14, 15, 16, 17, 18], [0, 1, 2, 3, 4, 5, 6, 7, 8, 9, 10, 11, 12, 13, 14, 15, 16, 17, 18, 19, 20], [0, 1, 2, 3, 4, 5, 6, 7, 8, 9, 10, 11, 12, 13, 14, 15, 16, 17, 18, 19, 20, 21], [0, 1, 2, 3, 4, 5, 6, 7, 8, 9, 10, 11, 12, 13, 14, 15, 16, 17, 18, 19, 20, 21, 22], [0, 1, 2, 3, 4, 5, 6, 7, 8, 9, 10, 11, 12, 13, 14, 15, 16, 17, 18, 19, 20, 21, 22, 23], [0, 1, 2, 3, 4, 5, 6, 7, 8, 9, 10, 11, 12, 13, 14, 15, 16, 17, 18, 19, 20, 21, 22, 23], [0, 1, 2, 3, 4, 5, 6, 7, 8, 9, 10, 11, 12, 13, 14, 15, 16, 17, 18, 19, 20, 21, 22, 23, 24, 25], [0, 1, 2, 3, 4, 5, 6, 7, 8, 9, 10, 11, 12, 13, 14, 15, 16, 17, 18, 19, 20, 21, 22, 23, 24, 25, 26], [0, 1, 2, 3, 4, 5, 6, 7, 8, 9, 10, 11, 12, 13, 14, 15, 16, 17, 18, 19, 20, 21, 22, 23, 24, 25, 26, 27], [0, 1, 2, 3, 4, 5, 6, 7, 8, 9, 10, 11, 12, 13, 14, 15, 16, 17, 18, 19, 20, 21, 22, 23, 24, 25, 26, 27, 28], [0, 1, 2, 3, 4, 5, 6, 7, 8, 9, 10, 11, 12, 13, 14, 15, 16, 17, 18, 19, 20, 21, 22, 23, 24, 25, 26, 27, 28], [0, 1, 2, 3, 4, 5, 6, 7, 8, 9, 10, 11, 12, 13, 14, 15, 16, 17, 18, 19, 20, 21, 22, 23, 24, 25, 26, 27, 28, 29, 30], [0, 1, 2, 3, 4, 5, 6, 7, 8, 9, 10, 11, 12, 13, 14, 15, 16, 17, 18, 19, 20, 21, 22, 23, 24, 25, 26, 27, 28, 29, 30, 31], [0, 1, 2, 3, 4, 5, 6, 7, 8, 9, 10, 11, 12, 13, 14, 15, 16, 17, 18, 19, 20, 21, 22, 23, 24, 25, 26, 27, 28, 29, 30, 31, 32], [0, 1, 2, 3, 4, 5, 6, 7, 8, 9, 10, 11, 12, 13, 14, 15, 16, 17, 18, 19, 20, 21, 22, 23, 24, 25, 26, 27, 28, 29, 30, 31, 32, 33], [0, 1, 2, 3, 4, 5, 6, 7, 8, 9, 10, 11, 12, 13, 14, 15, 16, 17, 18, 19, 20, 21, 22, 23, 24, 25, 26, 27, 28, 29, 30, 31, 32, 33], [0, 1, 2, 3, 4, 5, 6, 7, 8, 9, 10, 11, 12, 13, 14, 15, 16, 17, 18, 19, 20, 21, 22, 23, 24, 25, 26, 27, 28, 29, 30, 31, 32, 33, 34, 35], [0, 1, 2, 3, 4, 5, 6, 7, 8, 9, 10, 11, 12, 13, 14, 15, 16, 17, 18, 19, 20, 21, 22, 23, 24, 25, 26, 27, 28, 29, 30, 31, 32, 33, 34, 35, 36], [0, 1, 2, 3, 4, 5, 6, 7, 8, 9, 10, 11, 12, 13, 14, 15, 16, 17, 18, 19, 20, 21, 22, 23, 24, 25, 26, 27, 28, 29, 30, 31, 32, 33, 34, 35, 36, 37], [0, 1, 2, 3, 4, 5, 6, 7, 8, 9, 10, 11, 12, 13, 14, 15, 16, 17, 18, 19, 20, 21, 22, 23, 24, 25, 26, 27, 28, 29, 30, 31, 32, 33, 34, 35, 36, 37, 38], [0, 1, 2, 3, 4, 5, 6, 7, 8, 9, 10, 11, 12, 13, 14, 15, 16, 17, 18, 19, 20, 21, 22, 23, 24, 25, 26, 27, 28, 29, 30, 31, 32, 33, 34, 35, 36, 37, 38], [0, 1, 2, 3, 4, 5, 6, 7, 8, 9, 10, 11, 12, 13, 14, 15, 16, 17, 18, 19, 20, 21, 22, 23, 24, 25, 26, 27, 28, 29, 30, 31, 32, 33, 34, 35, 36, 37, 38, 39, 40], [0, 1, 2, 3, 4, 5, 6, 7, 8, 9, 10, 11, 12, 13, 14, 15, 16, 17, 18, 19, 20, 21, 22, 23, 24, 25, 26, 27, 28, 29, 30, 31, 32, 33, 34, 35, 36, 37, 38, 39, 40, 41], [0, 1, 2, 3, 4, 5, 6, 7, 8, 9, 10, 11, 12, 13, 14, 15, 16, 17, 18, 19, 20, 21, 22, 23, 24, 25, 26, 27, 28, 29, 30, 31, 32, 33, 34, 35, 36, 37, 38, 39, 40, 41, 42], [0, 1, 2, 3, 4, 5, 6, 7, 8, 9, 10, 11, 12, 13, 14, 15, 16, 17, 18, 19, 20, 21, 22, 23, 24, 25, 26, 27, 28, 29, 30, 31, 32, 33, 34, 35, 36, 37, 38, 39, 40, 41, 42, 43], [0, 1, 2, 3, 4, 5, 6, 7, 8, 9, 10, 11, 12, 13, 14, 15, 16, 17, 18, 19, 20, 21, 22, 23, 24, 25, 26, 27, 28, 29, 30, 31, 32, 33, 34, 35, 36, 37, 38, 39, 40, 41, 42, 43], [0, 1, 2, 3, 4, 5, 6, 7, 8, 9, 10, 11, 12, 13, 14, 15, 16, 17, 18, 19, 20, 21, 22, 23, 24, 25, 26, 27, 28, 29, 30, 31, 32, 33, 34, 35, 36, 37, 38, 39, 40, 41, 42, 43, 44, 45], [0, 1, 2, 3, 4, 5, 6, 7, 8, 9, 10, 11, 12, 13, 14, 15, 16, 17, 18, 19, 20, 21, 22, 23, 24, 25, 26, 27, 28, 29, 30, 31, 32, 33, 34, 35, 36, 37, 38, 39, 40, 41, 42, 43, 44, 45, 46], [0, 1, 2, 3, 4, 5, 6, 7, 8, 9, 10, 11, 12, 13, 14, 15, 16, 17, 18, 19, 20, 21, 22, 23, 24, 25, 26, 27, 28, 29, 30, 31, 32, 33, 34, 35, 36, 37, 38, 39, 40, 41, 42, 43, 44, 45, 46, 47], [0, 1, 2, 3, 4, 5, 6, 7, 8, 9, 10, 11, 12, 13, 14, 15, 16, 17, 18, 19, 20, 21, 22, 23, 24, 25, 26, 27, 28, 29, 30, 31, 32, 33, 34, 35, 36, 37, 38, 39, 40, 41, 42, 43, 44, 45, 46, 47, 48], [0, 1, 2, 3, 4, 5, 6, 7, 8, 9, 10, 11, 12, 13, 14, 15, 16, 17, 18, 19, 20, 21, 22, 23, 24, 25, 26, 27, 28, 29, 30, 31, 32, 33, 34, 35, 36, 37, 38, 39, 40, 41, 42, 43, 44, 45, 46, 47, 48], [0, 1, 2, 3, 4, 5, 6, 7, 8, 9, 10, 11, 12, 13, 14, 15, 16, 17, 18, 19, 20, 21, 22, 23, 24, 25, 26, 27, 28, 29, 30, 31, 32, 33, 34, 35, 36, 37, 38, 39, 40, 41, 42, 43, 44, 45, 46, 47, 48, 49, 50], [0, 1, 2, 3, 4, 5, 6, 7, 8, 9, 10, 11, 12, 13, 14, 15, 16, 17, 18, 19, 20, 21, 22, 23, 24, 25, 26, 27, 28, 29, 30, 31, 32, 33, 34, 35, 36, 37, 38, 39, 40, 41, 42, 43, 44, 45, 46, 47, 48, 49, 50, 51], [0, 1, 2, 3, 4, 5, 6, 7, 8, 9, 10, 11, 12, 13, 14, 15, 16, 17, 18, 19, 20, 21, 22, 23, 24, 25, 26, 27, 28, 29, 30, 31, 32, 33, 34, 35, 36, 37, 38, 39, 40, 41, 42, 43, 44, 45, 46, 47, 48, 49, 50, 51, 52]]) (nb := [0, 2, 3, 4, 5, 14, 15, 24, 25, 34, 35, 51]) (by kernel_rfl) fun K hK => ?_
  simp only [go_sem, Nat.reduceAdd, Nat.reduceLT, Nat.reduceLeDiff, Nat.reduceEqDiff, Nat.reduceSub, Nat.reduceMul, Nat.reduceBEq, Nat.reduceBNe, Nat.reducePow, Nat.reduceDiv, Int.reduceLE, Int.reduceLT, Int.reduceToNat, Int.reduceNeg, Int.reduceAdd, Int.reduceSub, Int.reduceEq, reduceIte, reduceCtorEq, UInt8.reduceOfNat, sgEx, Tr_fls, Tr_aps, un_fls, un_aps]
  first
  | refine hK _ ?_
  | refine And.intro (by first | omega | (simp; done) | (simp; omega) | (simp +contextual; done) | (simp_all; done) | (simp_all; omega)) (hK _ ?_)
  clear hK K
  refine WA.retE ty_ok (xs := [.lit (.bool true)]) (ls' := []) (rv := [.tmp 8]) rfl hX (by decide) (fun _ => rfl) (fun _ _ h => h) ?_
  simp only [go_sem, Nat.reduceAdd, Nat.reduceLT, Nat.reduceLeDiff, Nat.reduceEqDiff, Nat.reduceSub, Nat.reduceMul, Nat.reduceBEq, Nat.reduceBNe, Nat.reducePow, Nat.reduceDiv, Int.reduceLE, Int.reduceLT, Int.reduceToNat, Int.reduceNeg, Int.reduceAdd, Int.reduceSub, Int.reduceEq, reduceIte, reduceCtorEq, UInt8.reduceOfNat, sbT]
  all_goals simp
def sgE2 : Sg := fun f args ls =>
  match f, args, ls with
  | 21, [.agg [.li 5 xs, .li 2 ys], .agg [.lit (.int .i64 a), .lit (.int .i64 b)], .agg [.lit (.int .i64 pw), .lit (.bool b1), .lit (.bool ch), .lit (.bool tm), .lit (.int .i64 rg)], .lit (.int .i64 n)], [] => some (.lit (.bool true), [], xs = (xs.map unF).map flA ∧ ys = (ys.map unP).map apA)
  | _, _, _ => none
theorem sgE2_ok : SgOK Try.prog sgE2 := by
  intro f args ls r ls' vc h hvc
  unfold sgE2 at h
  split at h <;> first | (simp only [Option.some.injEq, Prod.mk.injEq] at h; obtain ⟨rfl, rfl, rfl⟩ := h) | cases h
  · rename_i xs ys a b pw b1 ch tm rg n
    refine ⟨(fnOK Try.func21 (by decide) rfl), ?_⟩
    have := ex_s (xs.map unF) (ys.map unP) a b ⟨pw, b1, ch, tm, rg⟩ n
    rw [← hvc.1, ← hvc.2] at this
    exact this
theorem exact_s (f : Fs) (v : Lk) (h : -9223372036854775808 ≤ v.n ∧ v.n ≤ 9223372036854775807) : FnS Try.prog 6 [fssA f, lkA v] [] (.lit (.bool true)) [] := by
  have hs : SgOK Try.prog sgE2 := sgE2_ok
  unfold fssA lkA
  refine FnS.of Try.func6 rfl (N := 13) rfl (by simp) (by simp) fun X hX => ?_
  simp only [tmArgs, lentH, Nat.reduceAdd]
  refine WA.regionK ty_ok hs fun K hK => ?_
  simp only [go_sem, Nat.reduceAdd, Nat.reduceLT, Nat.reduceLeDiff, Nat.reduceEqDiff, Nat.reduceSub, Nat.reduceMul, Nat.reduceBEq, Nat.reduceBNe, Nat.reducePow, Nat.reduceDiv, Int.reduceLE, Int.reduceLT, Int.reduceToNat, Int.reduceNeg, Int.reduceAdd, Int.reduceSub, Int.reduceEq, reduceIte, reduceCtorEq, UInt8.reduceOfNat, true_and]
  first
  | refine hK _ ?_
  | refine And.intro (by first | omega | (simp; done) | (simp; omega) | (simp +contextual; done) | (simp_all; done) | (simp_all; omega)) (hK _ ?_)
  clear hK K
  refine WA.regionK ty_ok hs fun K hK => ?_
  simp only [go_sem, Nat.reduceAdd, Nat.reduceLT, Nat.reduceLeDiff, Nat.reduceEqDiff, Nat.reduceSub, Nat.reduceMul, Nat.reduceBEq, Nat.reduceBNe, Nat.reducePow, Nat.reduceDiv, Int.reduceLE, Int.reduceLT, Int.reduceToNat, Int.reduceNeg, Int.reduceAdd, Int.reduceSub, Int.reduceEq, reduceIte, reduceCtorEq, UInt8.reduceOfNat, sgE2, Tr_fls, Tr_aps, un_fls, un_aps]
  first
  | refine hK _ ?_
  | refine And.intro (by first | omega | (simp; done) | (simp; omega) | (simp +contextual; done) | (simp_all; done) | (simp_all; omega)) (hK _ ?_)
  clear hK K
  refine WA.retE ty_ok (xs := [.lit (.bool true)]) (ls' := []) (rv := [.tmp 4]) rfl hX (by decide) (fun _ => rfl) (fun _ _ h => h) ?_
  simp only [go_sem, Nat.reduceAdd, Nat.reduceLT, Nat.reduceLeDiff, Nat.reduceEqDiff, Nat.reduceSub, Nat.reduceMul, Nat.reduceBEq, Nat.reduceBNe, Nat.reducePow, Nat.reduceDiv, Int.reduceLE, Int.reduceLT, Int.reduceToNat, Int.reduceNeg, Int.reduceAdd, Int.reduceSub, Int.reduceEq, reduceIte, reduceCtorEq, UInt8.reduceOfNat, sbT]
end Go.Proofs.Ytnjmedihheblaaa
