import Derived.Test.YtnjmedihheblaaaFilC
namespace Go.Proofs.Ytnjmedihheblaaa
open Go.RowKit Go.TravelBase Go.TravelAbs
set_option linter.unusedVariables false
set_option linter.unusedSimpArgs false












/-! ### Places -/
def atB (root : List Fl) (apps : List Fap) (a : Int) : Prop := val root apps ≠ 0 ∨ a < -1 ∨ a ≥ apps.length
instance (root : List Fl) (apps : List Fap) (a : Int) : Decidable (atB root apps a) := inferInstanceAs (Decidable (_ ∨ _))
def atL (root : List Fl) (apps : List Fap) (a : Int) : List Fl := if atB root apps a then [] else if a = -1 then root else (apps.getD a.toNat ⟨[], []⟩).files
def atO (root : List Fl) (apps : List Fap) (a f : Int) : Bool := bif decide (atB root apps a) then false else (bif decide (f ≥ -1) then decide (f < ((atL root apps a).length : Int)) else false)
def sgA : Sg := fun f args ls =>
  match f, args, ls with
  | 38, [.agg [.li 5 xs, .li 2 ys]], [] => some (.lit (.int .i64 (val (xs.map unF) (ys.map unP))), [], xs = (xs.map unF).map flA ∧ ys = (ys.map unP).map apA)
  | _, _, _ => none
theorem sgA_ok : SgOK Try.prog sgA := by
  intro f args ls r ls' vc h hvc
  unfold sgA at h
  split at h <;> first | (simp only [Option.some.injEq, Prod.mk.injEq] at h; obtain ⟨rfl, rfl, rfl⟩ := h) | cases h
  rename_i xs ys
  refine ⟨(fnOK Try.func38 (by decide) rfl), ?_⟩
  have := valid_s (xs.map unF) (ys.map unP)
  rw [← hvc.1, ← hvc.2] at this
  exact this
theorem at_s (root : List Fl) (apps : List Fap) (a f : Int) : FnS Try.prog 47 [.agg [.li 5 (root.map flA), .li 2 (apps.map apA)], .agg [.lit (.int .i64 a), .lit (.int .i64 f)]] [] (.tup [.li 5 ((atL root apps a).map flA), .lit (.bool (atO root apps a f))]) [] := by
  have hs := sgA_ok
  refine FnS.of Try.func47 rfl (N := 46) rfl (by simp) (by simp) fun X hX => ?_
  simp only [tmArgs, lentH, Nat.reduceAdd]
  refine WA.regionK ty_ok hs fun K hK => ?_
  simp only [go_sem, Nat.reduceAdd, Nat.reduceLT, Nat.reduceLeDiff, Nat.reduceEqDiff, Nat.reduceSub, Nat.reduceMul, Nat.reduceBEq, Nat.reduceBNe, Nat.reducePow, Nat.reduceDiv, Int.reduceLE, Int.reduceLT, Int.reduceToNat, Int.reduceNeg, Int.reduceAdd, Int.reduceSub, Int.reduceEq, reduceIte, reduceCtorEq, UInt8.reduceOfNat, true_and]
  first
  | refine hK _ ?_
  | refine And.intro (by first | omega | (simp; done) | (simp; omega) | (simp +contextual; done) | (simp_all; done) | (simp_all; omega)) (hK _ ?_)
  clear hK K
  refine WA.seq ?_
  refine WA.regionK ty_ok hs fun K hK => ?_
  simp only [go_sem, Nat.reduceAdd, Nat.reduceLT, Nat.reduceLeDiff, Nat.reduceEqDiff, Nat.reduceSub, Nat.reduceMul, Nat.reduceBEq, Nat.reduceBNe, Nat.reducePow, Nat.reduceDiv, Int.reduceLE, Int.reduceLT, Int.reduceToNat, Int.reduceNeg, Int.reduceAdd, Int.reduceSub, Int.reduceEq, reduceIte, reduceCtorEq, UInt8.reduceOfNat, sgA, Tr_fls, Tr_aps, un_fls, un_aps]
  first
  | refine hK _ ?_
  | refine And.intro (by first | omega | (simp; done) | (simp; omega) | (simp +contextual; done) | (simp_all; done) | (simp_all; omega)) (hK _ ?_)
  clear hK K
  refine WA.cond rfl (fun h => ?_) (fun h => ?_)
  ·
    have hb : atB root apps a := by
      unfold atB
      revert h
      by_cases h1 : val root apps = 0 <;> by_cases h2 : a < -1 <;> simp [h1, h2]
    have e1 : atL root apps a = [] := if_pos hb
    have e2 : atO root apps a f = false := by unfold atO; rw [decide_eq_true hb]; rfl
    refine WA.regionK ty_ok hs fun K hK => ?_
    simp only [go_sem, Nat.reduceAdd, Nat.reduceLT, Nat.reduceLeDiff, Nat.reduceEqDiff, Nat.reduceSub, Nat.reduceMul, Nat.reduceBEq, Nat.reduceBNe, Nat.reducePow, Nat.reduceDiv, Int.reduceLE, Int.reduceLT, Int.reduceToNat, Int.reduceNeg, Int.reduceAdd, Int.reduceSub, Int.reduceEq, reduceIte, reduceCtorEq, UInt8.reduceOfNat, true_and]
    first
    | refine hK _ ?_
    | refine And.intro (by first | omega | (simp; done) | (simp; omega) | (simp +contextual; done) | (simp_all; done) | (simp_all; omega)) (hK _ ?_)
    clear hK K
    refine WA.retE ty_ok (xs := [.li 5 ((atL root apps a).map flA), .lit (.bool (atO root apps a f))]) (ls' := []) (rv := [.tmp 4, .tmp 5]) rfl hX (by decide) (fun _ => rfl) (fun _ _ h => h) ?_
    simp only [go_sem, Nat.reduceAdd, Nat.reduceLT, Nat.reduceLeDiff, Nat.reduceEqDiff, Nat.reduceSub, Nat.reduceMul, Nat.reduceBEq, Nat.reduceBNe, Nat.reducePow, Nat.reduceDiv, Int.reduceLE, Int.reduceLT, Int.reduceToNat, Int.reduceNeg, Int.reduceAdd, Int.reduceSub, Int.reduceEq, reduceIte, reduceCtorEq, UInt8.reduceOfNat, sbT, e1, e2]
  ·
    with_reducible refine WA.skipN ?_
    repeat first | with_reducible refine WN.t ?_ | with_reducible refine WN.b ?_
    have hb : ¬ atB root apps a := by
      unfold atB
      revert h
      by_cases h1 : val root apps = 0 <;> by_cases h2 : a < -1 <;> simp [h1, h2] <;> try (intro h3; omega)
    have hb2 : -1 ≤ a ∧ a < apps.length := by unfold atB at hb; omega
    clear h
    refine WA.regionK ty_ok hs fun K hK => ?_
    simp only [go_sem, Nat.reduceAdd, Nat.reduceLT, Nat.reduceLeDiff, Nat.reduceEqDiff, Nat.reduceSub, Nat.reduceMul, Nat.reduceBEq, Nat.reduceBNe, Nat.reducePow, Nat.reduceDiv, Int.reduceLE, Int.reduceLT, Int.reduceToNat, Int.reduceNeg, Int.reduceAdd, Int.reduceSub, Int.reduceEq, reduceIte, reduceCtorEq, UInt8.reduceOfNat, true_and]
    first
    | refine hK _ ?_
    | refine And.intro (by first | omega | (simp; done) | (simp; omega) | (simp +contextual; done) | (simp_all; done) | (simp_all; omega)) (hK _ ?_)
    clear hK K
    refine WA.seq ?_
    refine WA.regionK ty_ok hs fun K hK => ?_
    simp only [go_sem, Nat.reduceAdd, Nat.reduceLT, Nat.reduceLeDiff, Nat.reduceEqDiff, Nat.reduceSub, Nat.reduceMul, Nat.reduceBEq, Nat.reduceBNe, Nat.reducePow, Nat.reduceDiv, Int.reduceLE, Int.reduceLT, Int.reduceToNat, Int.reduceNeg, Int.reduceAdd, Int.reduceSub, Int.reduceEq, reduceIte, reduceCtorEq, UInt8.reduceOfNat, true_and]
    first
    | refine hK _ ?_
    | refine And.intro (by first | omega | (simp; done) | (simp; omega) | (simp +contextual; done) | (simp_all; done) | (simp_all; omega)) (hK _ ?_)
    clear hK K
    refine WA.cond rfl (fun h => ?_) (fun h => ?_)
    ·
      have h1 : a ≠ -1 := by simpa using h
      have hg : a.toNat < apps.length := by omega
      have g1 := ap_at hg
      have e1 : atL root apps a = apps[a.toNat].files := by
        unfold atL
        rw [if_neg hb, if_neg h1]
        simp [List.getD, List.getElem?_eq_getElem hg]
      have e2 : atO root apps a f = (bif decide (f ≥ -1) then decide (f < (apps[a.toNat].files.length : Int)) else false) := by unfold atO; rw [decide_eq_false hb, e1]; rfl
      refine WA.regionE ty_ok hs fun K hK => ?_
      simp only [go_sem, Nat.reduceAdd, Nat.reduceLT, Nat.reduceLeDiff, Nat.reduceEqDiff, Nat.reduceSub, Nat.reduceMul, Nat.reduceBEq, Nat.reduceBNe, Nat.reducePow, Nat.reduceDiv, Int.reduceLE, Int.reduceLT, Int.reduceToNat, Int.reduceNeg, Int.reduceAdd, Int.reduceSub, Int.reduceEq, reduceIte, reduceCtorEq, UInt8.reduceOfNat, g1]
      repeat refine And.intro (by first | omega | assumption | (simp; done) | (simp; omega) | (simp +contextual; done) | (simp_all; done) | (simp_all; omega)) ?_
      with_reducible refine hK _ (WN.mk ?_)
      clear hK K
      repeat first | with_reducible refine WN.t ?_ | with_reducible refine WN.b ?_
      refine WA.drawnK mixed_ ty_ok hs (tbl := [[], [], [1], [1, 2], [1, 2, 3], [1, 2, 3, 4], [1, 2, 3, 4, 5], [1, 2, 3, 4], [1, 2, 3, 4, 7], [1, 2, 3, 4, 5, 6, 7, 8], [1, 2, 3, 4, 5, 6, 7, 8, 9], [0, 1, 2, 3, 4], [0, 1, 2, 3, 4, 5, 6, 7, 8, 9, 10, 11]]) (nb := [2, 6]) (by kernel_rfl) fun K hK => ?_
      simp only [go_sem, Nat.reduceAdd, Nat.reduceLT, Nat.reduceLeDiff, Nat.reduceEqDiff, Nat.reduceSub, Nat.reduceMul, Nat.reduceBEq, Nat.reduceBNe, Nat.reducePow, Nat.reduceDiv, Int.reduceLE, Int.reduceLT, Int.reduceToNat, Int.reduceNeg, Int.reduceAdd, Int.reduceSub, Int.reduceEq, reduceIte, reduceCtorEq, UInt8.reduceOfNat, true_and]
      first
      | refine hK _ ?_
      | refine And.intro (by first | omega | (simp; done) | (simp; omega) | (simp +contextual; done) | (simp_all; done) | (simp_all; omega)) (hK _ ?_)
      clear hK K
      refine WA.retE ty_ok (xs := [.li 5 ((atL root apps a).map flA), .lit (.bool (atO root apps a f))]) (ls' := []) (rv := [.tmp 4, .tmp 5]) rfl hX (by decide) (fun _ => rfl) (fun _ _ h => h) ?_
      simp only [go_sem, Nat.reduceAdd, Nat.reduceLT, Nat.reduceLeDiff, Nat.reduceEqDiff, Nat.reduceSub, Nat.reduceMul, Nat.reduceBEq, Nat.reduceBNe, Nat.reducePow, Nat.reduceDiv, Int.reduceLE, Int.reduceLT, Int.reduceToNat, Int.reduceNeg, Int.reduceAdd, Int.reduceSub, Int.reduceEq, reduceIte, reduceCtorEq, UInt8.reduceOfNat, sbT, e1, e2, Tr_fls]
    ·
      with_reducible refine WA.skipN ?_
      repeat first | with_reducible refine WN.t ?_ | with_reducible refine WN.b ?_
      have h1 : a = -1 := by simpa using h
      have e1 : atL root apps a = root := by
        unfold atL
        rw [if_neg hb, if_pos h1]
      have e2 : atO root apps a f = (bif decide (f ≥ -1) then decide (f < (root.length : Int)) else false) := by unfold atO; rw [decide_eq_false hb, e1]; rfl
      refine WA.drawnK mixed_ ty_ok hs (tbl := [[], [], [1], [1, 2], [1, 2, 3], [1, 2, 3, 4], [1, 2, 3, 4, 5], [1, 2, 3, 4], [1, 2, 3, 4, 7], [1, 2, 3, 4, 5, 6, 7, 8], [1, 2, 3, 4, 5, 6, 7, 8, 9], [0, 1, 2, 3, 4], [0, 1, 2, 3, 4, 5, 6, 7, 8, 9, 10, 11]]) (nb := [2, 6]) (by kernel_rfl) fun K hK => ?_
      simp only [go_sem, Nat.reduceAdd, Nat.reduceLT, Nat.reduceLeDiff, Nat.reduceEqDiff, Nat.reduceSub, Nat.reduceMul, Nat.reduceBEq, Nat.reduceBNe, Nat.reducePow, Nat.reduceDiv, Int.reduceLE, Int.reduceLT, Int.reduceToNat, Int.reduceNeg, Int.reduceAdd, Int.reduceSub, Int.reduceEq, reduceIte, reduceCtorEq, UInt8.reduceOfNat, true_and]
      first
      | refine hK _ ?_
      | refine And.intro (by first | omega | (simp; done) | (simp; omega) | (simp +contextual; done) | (simp_all; done) | (simp_all; omega)) (hK _ ?_)
      clear hK K
      refine WA.retE ty_ok (xs := [.li 5 ((atL root apps a).map flA), .lit (.bool (atO root apps a f))]) (ls' := []) (rv := [.tmp 4, .tmp 5]) rfl hX (by decide) (fun _ => rfl) (fun _ _ h => h) ?_
      simp only [go_sem, Nat.reduceAdd, Nat.reduceLT, Nat.reduceLeDiff, Nat.reduceEqDiff, Nat.reduceSub, Nat.reduceMul, Nat.reduceBEq, Nat.reduceBNe, Nat.reducePow, Nat.reduceDiv, Int.reduceLE, Int.reduceLT, Int.reduceToNat, Int.reduceNeg, Int.reduceAdd, Int.reduceSub, Int.reduceEq, reduceIte, reduceCtorEq, UInt8.reduceOfNat, sbT, e1, e2, Tr_fls]
theorem atO_rng {root : List Fl} {apps : List Fap} {a f : Int} (h : atO root apps a f = true) : ¬ atB root apps a ∧ -1 ≤ f ∧ f < ((atL root apps a).length : Int) := by
  unfold atO at h
  by_cases h1 : atB root apps a
  · rw [decide_eq_true h1] at h; cases h
  · rw [decide_eq_false h1] at h
    by_cases h2 : f ≥ -1
    · rw [decide_eq_true h2] at h
      exact ⟨h1, h2, of_decide_eq_true h⟩
    · rw [decide_eq_false h2] at h; cases h

/-! ### find -/
def fndA (p : Fl → Bool) (root : List Fl) (apps : List Fap) (a f : Int) : Int := if atO root apps a f = true ∧ 0 ≤ fdx p (atL root apps a) then a else 0
def fndF (p : Fl → Bool) (root : List Fl) (apps : List Fap) (a f : Int) : Int := if atO root apps a f = true ∧ 0 ≤ fdx p (atL root apps a) then fdx p (atL root apps a) else 0
def fndE (p : Fl → Bool) (root : List Fl) (apps : List Fap) (a f : Int) : Int := if atO root apps a f = true then (if 0 ≤ fdx p (atL root apps a) then 0 else 16) else 14
def sgB (g : FuncId) (y : AV) (p : Fl → Bool) : Sg := fun f args ls =>
  match f, args, ls with
  | 47, [.agg [.li 5 xs, .li 2 ys], .agg [.lit (.int .i64 a), .lit (.int .i64 b)]], [] => some (.tup [.li 5 ((atL (xs.map unF) (ys.map unP) a).map flA), .lit (.bool (atO (xs.map unF) (ys.map unP) a b))], [], xs = (xs.map unF).map flA ∧ ys = (ys.map unP).map apA)
  | 48, [.li 5 xs, .clo g' [.ep y' 0]], [] => some (.lit (.int .i64 (fdx p (xs.map unF))), [], (g' = g ∧ y' = y) ∧ xs = (xs.map unF).map flA)
  | _, _, _ => none
theorem sgB_ok {g : FuncId} {y : AV} {p : Fl → Bool} (hok : FnOK Try.prog g) (hT : Tr (.ep y 0) = True) (hp : ∀ x, FnS Try.prog g [flA x, .ep y 0] [] (.lit (.bool (p x))) []) : SgOK Try.prog (sgB g y p) := by
  intro f args ls r ls' vc h hvc
  unfold sgB at h
  split at h <;> first | (simp only [Option.some.injEq, Prod.mk.injEq] at h; obtain ⟨rfl, rfl, rfl⟩ := h) | cases h
  · rename_i xs ys a b
    refine ⟨(fnOK Try.func47 (by decide) rfl), ?_⟩
    have := at_s (xs.map unF) (ys.map unP) a b
    rw [← hvc.1, ← hvc.2] at this
    exact this
  · rename_i xs g' y'
    obtain ⟨⟨rfl, rfl⟩, h⟩ := hvc
    refine ⟨(fnOK Try.func48 (by decide) rfl), ?_⟩
    have := idxF_s g' y' p (xs.map unF) hok hT hp
    rw [← h] at this
    exact this
theorem find_s (g : FuncId) (y : AV) (p : Fl → Bool) (root : List Fl) (apps : List Fap) (a f : Int) (hok : FnOK Try.prog g) (hT : Tr (.ep y 0) = True) (hp : ∀ x, FnS Try.prog g [flA x, .ep y 0] [] (.lit (.bool (p x))) []) :
    FnS Try.prog 30 [.agg [.li 5 (root.map flA), .li 2 (apps.map apA)], .agg [.lit (.int .i64 a), .lit (.int .i64 f)], .clo g [.ep y 0]] [] (.tup [.agg [.lit (.int .i64 (fndA p root apps a f)), .lit (.int .i64 (fndF p root apps a f))], .lit (.int .i64 (fndE p root apps a f))]) [] := by
  have hs := sgB_ok hok hT hp
  have hcT : Tr (.clo g [.ep y 0]) = True := eq_true (Tr.clo fun x hx => by
    simp only [List.mem_cons, List.not_mem_nil, or_false] at hx
    subst hx
    exact of_eq_true hT)
  refine FnS.of Try.func30 rfl (N := 30) rfl (by simp) (by simp) fun X hX => ?_
  simp only [tmArgs, lentH, Nat.reduceAdd]
  refine WA.regionK ty_ok hs fun K hK => ?_
  simp only [go_sem, Nat.reduceAdd, Nat.reduceLT, Nat.reduceLeDiff, Nat.reduceEqDiff, Nat.reduceSub, Nat.reduceMul, Nat.reduceBEq, Nat.reduceBNe, Nat.reducePow, Nat.reduceDiv, Int.reduceLE, Int.reduceLT, Int.reduceToNat, Int.reduceNeg, Int.reduceAdd, Int.reduceSub, Int.reduceEq, reduceIte, reduceCtorEq, UInt8.reduceOfNat, true_and]
  first
  | refine hK _ ?_
  | refine And.intro (by first | omega | (simp; done) | (simp; omega) | (simp +contextual; done) | (simp_all; done) | (simp_all; omega)) (hK _ ?_)
  clear hK K
  refine WA.regionK ty_ok hs fun K hK => ?_
  simp only [go_sem, Nat.reduceAdd, Nat.reduceLT, Nat.reduceLeDiff, Nat.reduceEqDiff, Nat.reduceSub, Nat.reduceMul, Nat.reduceBEq, Nat.reduceBNe, Nat.reducePow, Nat.reduceDiv, Int.reduceLE, Int.reduceLT, Int.reduceToNat, Int.reduceNeg, Int.reduceAdd, Int.reduceSub, Int.reduceEq, reduceIte, reduceCtorEq, UInt8.reduceOfNat, sgB, Tr_fls, Tr_aps, un_fls, un_aps]
  first
  | refine hK _ ?_
  | refine And.intro (by first | omega | (simp; done) | (simp; omega) | (simp +contextual; done) | (simp_all; done) | (simp_all; omega)) (hK _ ?_)
  clear hK K
  refine WA.seq ?_
  refine WA.regionK ty_ok hs fun K hK => ?_
  simp only [go_sem, Nat.reduceAdd, Nat.reduceLT, Nat.reduceLeDiff, Nat.reduceEqDiff, Nat.reduceSub, Nat.reduceMul, Nat.reduceBEq, Nat.reduceBNe, Nat.reducePow, Nat.reduceDiv, Int.reduceLE, Int.reduceLT, Int.reduceToNat, Int.reduceNeg, Int.reduceAdd, Int.reduceSub, Int.reduceEq, reduceIte, reduceCtorEq, UInt8.reduceOfNat, true_and]
  first
  | refine hK _ ?_
  | refine And.intro (by first | omega | (simp; done) | (simp; omega) | (simp +contextual; done) | (simp_all; done) | (simp_all; omega)) (hK _ ?_)
  clear hK K
  refine WA.cond rfl (fun h => ?_) (fun h => ?_)
  ·
    have h1 : atO root apps a f = false := by simpa using h
    have h2 : ¬ atO root apps a f = true := by rw [h1]; simp
    refine WA.regionK ty_ok hs fun K hK => ?_
    simp only [go_sem, Nat.reduceAdd, Nat.reduceLT, Nat.reduceLeDiff, Nat.reduceEqDiff, Nat.reduceSub, Nat.reduceMul, Nat.reduceBEq, Nat.reduceBNe, Nat.reducePow, Nat.reduceDiv, Int.reduceLE, Int.reduceLT, Int.reduceToNat, Int.reduceNeg, Int.reduceAdd, Int.reduceSub, Int.reduceEq, reduceIte, reduceCtorEq, UInt8.reduceOfNat, true_and]
    first
    | refine hK _ ?_
    | refine And.intro (by first | omega | (simp; done) | (simp; omega) | (simp +contextual; done) | (simp_all; done) | (simp_all; omega)) (hK _ ?_)
    clear hK K
    refine WA.retE ty_ok (xs := [.agg [.lit (.int .i64 (fndA p root apps a f)), .lit (.int .i64 (fndF p root apps a f))], .lit (.int .i64 (fndE p root apps a f))]) (ls' := []) (rv := [.cell 6 46, .tmp 7]) rfl hX (by decide) (fun _ => rfl) (fun _ _ h => h) ?_
    simp only [go_sem, Nat.reduceAdd, Nat.reduceLT, Nat.reduceLeDiff, Nat.reduceEqDiff, Nat.reduceSub, Nat.reduceMul, Nat.reduceBEq, Nat.reduceBNe, Nat.reducePow, Nat.reduceDiv, Int.reduceLE, Int.reduceLT, Int.reduceToNat, Int.reduceNeg, Int.reduceAdd, Int.reduceSub, Int.reduceEq, reduceIte, reduceCtorEq, UInt8.reduceOfNat, sbT, fndA, fndF, fndE, h1]
    all_goals simp
  ·
    with_reducible refine WA.skipN ?_
    repeat first | with_reducible refine WN.t ?_ | with_reducible refine WN.b ?_
    have h1 : atO root apps a f = true := by simpa using h
    refine WA.regionK ty_ok hs fun K hK => ?_
    simp only [go_sem, Nat.reduceAdd, Nat.reduceLT, Nat.reduceLeDiff, Nat.reduceEqDiff, Nat.reduceSub, Nat.reduceMul, Nat.reduceBEq, Nat.reduceBNe, Nat.reducePow, Nat.reduceDiv, Int.reduceLE, Int.reduceLT, Int.reduceToNat, Int.reduceNeg, Int.reduceAdd, Int.reduceSub, Int.reduceEq, reduceIte, reduceCtorEq, UInt8.reduceOfNat, sgB, Tr_fls, un_fls, hcT, hT]
    first
    | refine hK _ ?_
    | refine And.intro (by first | omega | (simp; done) | (simp; omega) | (simp +contextual; done) | (simp_all; done) | (simp_all; omega)) (hK _ ?_)
    clear hK K
    refine WA.seq ?_
    refine WA.regionK ty_ok hs fun K hK => ?_
    simp only [go_sem, Nat.reduceAdd, Nat.reduceLT, Nat.reduceLeDiff, Nat.reduceEqDiff, Nat.reduceSub, Nat.reduceMul, Nat.reduceBEq, Nat.reduceBNe, Nat.reducePow, Nat.reduceDiv, Int.reduceLE, Int.reduceLT, Int.reduceToNat, Int.reduceNeg, Int.reduceAdd, Int.reduceSub, Int.reduceEq, reduceIte, reduceCtorEq, UInt8.reduceOfNat, true_and]
    first
    | refine hK _ ?_
    | refine And.intro (by first | omega | (simp; done) | (simp; omega) | (simp +contextual; done) | (simp_all; done) | (simp_all; omega)) (hK _ ?_)
    clear hK K
    refine WA.cond rfl (fun h => ?_) (fun h => ?_)
    ·
      have h2 : ¬ (0 ≤ fdx p (atL root apps a)) := by have := of_decide_eq_true h; omega
      refine WA.regionK ty_ok hs fun K hK => ?_
      simp only [go_sem, Nat.reduceAdd, Nat.reduceLT, Nat.reduceLeDiff, Nat.reduceEqDiff, Nat.reduceSub, Nat.reduceMul, Nat.reduceBEq, Nat.reduceBNe, Nat.reducePow, Nat.reduceDiv, Int.reduceLE, Int.reduceLT, Int.reduceToNat, Int.reduceNeg, Int.reduceAdd, Int.reduceSub, Int.reduceEq, reduceIte, reduceCtorEq, UInt8.reduceOfNat, true_and]
      first
      | refine hK _ ?_
      | refine And.intro (by first | omega | (simp; done) | (simp; omega) | (simp +contextual; done) | (simp_all; done) | (simp_all; omega)) (hK _ ?_)
      clear hK K
      refine WA.retE ty_ok (xs := [.agg [.lit (.int .i64 (fndA p root apps a f)), .lit (.int .i64 (fndF p root apps a f))], .lit (.int .i64 (fndE p root apps a f))]) (ls' := []) (rv := [.cell 6 46, .tmp 7]) rfl hX (by decide) (fun _ => rfl) (fun _ _ h => h) ?_
      simp only [go_sem, Nat.reduceAdd, Nat.reduceLT, Nat.reduceLeDiff, Nat.reduceEqDiff, Nat.reduceSub, Nat.reduceMul, Nat.reduceBEq, Nat.reduceBNe, Nat.reducePow, Nat.reduceDiv, Int.reduceLE, Int.reduceLT, Int.reduceToNat, Int.reduceNeg, Int.reduceAdd, Int.reduceSub, Int.reduceEq, reduceIte, reduceCtorEq, UInt8.reduceOfNat, sbT, fndA, fndF, fndE, h1, h2]
    ·
      with_reducible refine WA.skipN ?_
      repeat first | with_reducible refine WN.t ?_ | with_reducible refine WN.b ?_
      have h2 : (0 ≤ fdx p (atL root apps a)) := by have := of_decide_eq_false h; omega
      refine WA.regionK ty_ok hs fun K hK => ?_
      simp only [go_sem, Nat.reduceAdd, Nat.reduceLT, Nat.reduceLeDiff, Nat.reduceEqDiff, Nat.reduceSub, Nat.reduceMul, Nat.reduceBEq, Nat.reduceBNe, Nat.reducePow, Nat.reduceDiv, Int.reduceLE, Int.reduceLT, Int.reduceToNat, Int.reduceNeg, Int.reduceAdd, Int.reduceSub, Int.reduceEq, reduceIte, reduceCtorEq, UInt8.reduceOfNat, true_and]
      first
      | refine hK _ ?_
      | refine And.intro (by first | omega | (simp; done) | (simp; omega) | (simp +contextual; done) | (simp_all; done) | (simp_all; omega)) (hK _ ?_)
      clear hK K
      refine WA.retE ty_ok (xs := [.agg [.lit (.int .i64 (fndA p root apps a f)), .lit (.int .i64 (fndF p root apps a f))], .lit (.int .i64 (fndE p root apps a f))]) (ls' := []) (rv := [.cell 6 46, .tmp 7]) rfl hX (by decide) (fun _ => rfl) (fun _ _ h => h) ?_
      simp only [go_sem, Nat.reduceAdd, Nat.reduceLT, Nat.reduceLeDiff, Nat.reduceEqDiff, Nat.reduceSub, Nat.reduceMul, Nat.reduceBEq, Nat.reduceBNe, Nat.reducePow, Nat.reduceDiv, Int.reduceLE, Int.reduceLT, Int.reduceToNat, Int.reduceNeg, Int.reduceAdd, Int.reduceSub, Int.reduceEq, reduceIte, reduceCtorEq, UInt8.reduceOfNat, sbT, fndA, fndF, fndE, h1, h2]
end Go.Proofs.Ytnjmedihheblaaa
