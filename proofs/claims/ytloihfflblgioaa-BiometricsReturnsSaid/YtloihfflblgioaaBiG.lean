import Derived.Test.YtloihfflblgioaaBiF
namespace Go.Proofs.Ytloihfflblgioaa
open Go.RowKit Go.TravelBase Go.TravelAbs
set_option linter.unusedVariables false
set_option linter.unusedSimpArgs false

















/-! ### What is equal is found equal -/
theorem ints_s (l : List Int) : FnS Try.prog 17 [.li 1 (l.map iA), .li 1 (l.map iA)] [] (.lit (.bool true)) [] := by
  have hs := sg0_ok
  have hT := Tr_ia l
  have hL : (l.map iA).length = l.length := List.length_map _
  refine FnS.len fun hM _ => ?_
  have hM := hM 0 1 _ rfl
  rw [hL] at hM
  simp only [maxLen] at hM
  refine FnS.of Try.func17 rfl (N := 26) rfl (by simp) (by simp) fun X hX => ?_
  simp only [tmArgs, lentH, Nat.reduceAdd]
  refine WA.regionK ty_ok hs fun K hK => ?_
  simp only [go_sem, Nat.reduceAdd, Nat.reduceLT, Nat.reduceLeDiff, Nat.reduceEqDiff, Nat.reduceSub, Nat.reduceMul, Nat.reduceBEq, Nat.reduceBNe, Nat.reducePow, Nat.reduceDiv, Int.reduceLE, Int.reduceLT, Int.reduceToNat, Int.reduceNeg, Int.reduceAdd, Int.reduceSub, Int.reduceEq, reduceIte, reduceCtorEq, UInt8.reduceOfNat, true_and]
  repeat refine And.intro (by first | omega | assumption | (simp; done) | (simp; omega) | (simp +contextual; done) | (simp_all; done) | (simp_all; omega)) ?_
  refine hK _ ?_
  clear hK K
  refine WA.seq ?_
  refine WA.regionK ty_ok hs fun K hK => ?_
  simp only [go_sem, Nat.reduceAdd, Nat.reduceLT, Nat.reduceLeDiff, Nat.reduceEqDiff, Nat.reduceSub, Nat.reduceMul, Nat.reduceBEq, Nat.reduceBNe, Nat.reducePow, Nat.reduceDiv, Int.reduceLE, Int.reduceLT, Int.reduceToNat, Int.reduceNeg, Int.reduceAdd, Int.reduceSub, Int.reduceEq, reduceIte, reduceCtorEq, UInt8.reduceOfNat, hL]
  repeat refine And.intro (by first | omega | assumption | (simp; done) | (simp; omega) | (simp +contextual; done) | (simp_all; done) | (simp_all; omega)) ?_
  refine hK _ ?_
  clear hK K
  refine WA.cond rfl (fun h => ?_) (fun h => ?_)
  · simp at h
  with_reducible refine WA.skipN ?_
  repeat first | with_reducible refine WN.t ?_ | with_reducible refine WN.b ?_
  refine WA.seq ?_
  refine WA.regionK ty_ok hs fun K hK => ?_
  simp only [go_sem, Nat.reduceAdd, Nat.reduceLT, Nat.reduceLeDiff, Nat.reduceEqDiff, Nat.reduceSub, Nat.reduceMul, Nat.reduceBEq, Nat.reduceBNe, Nat.reducePow, Nat.reduceDiv, Int.reduceLE, Int.reduceLT, Int.reduceToNat, Int.reduceNeg, Int.reduceAdd, Int.reduceSub, Int.reduceEq, reduceIte, reduceCtorEq, UInt8.reduceOfNat, hL]
  repeat refine And.intro (by first | omega | assumption | (simp; done) | (simp; omega) | (simp +contextual; done) | (simp_all; done) | (simp_all; omega)) ?_
  refine hK _ ?_
  clear hK K
  refine WA.block ?_
  refine WA.loopW hX (fun k => k) ((fun (i : Nat) => ⟨[(0, .li 1 (l.map iA)), (1, .li 1 (l.map iA)), (5, .lit (.int .i64 (i : Nat)))], [], 3000, 26⟩ : _ → St)) (fun i => l.length - i) (fun i => i ≤ l.length) (i0 := 0) (by omega) (by simp only [go_sem, Int.natCast_add, Nat.reduceAdd, Nat.reduceLT, Nat.reduceLeDiff, Nat.reduceEqDiff, Nat.reduceSub, Nat.reduceMul, Nat.reduceBEq, Nat.reduceBNe, Nat.reducePow, Nat.reduceDiv, Int.reduceLE, Int.reduceLT, Int.reduceToNat, Int.reduceNeg, Int.reduceAdd, Int.reduceSub, Int.reduceEq, reduceIte, reduceCtorEq, UInt8.reduceOfNat, hT] <;> (try and_intros) <;> (try omega)) fun i hi => ?_
  refine WA.seq ?_
  refine WA.regionK ty_ok hs fun K hK => ?_
  simp only [go_sem, Nat.reduceAdd, Nat.reduceLT, Nat.reduceLeDiff, Nat.reduceEqDiff, Nat.reduceSub, Nat.reduceMul, Nat.reduceBEq, Nat.reduceBNe, Nat.reducePow, Nat.reduceDiv, Int.reduceLE, Int.reduceLT, Int.reduceToNat, Int.reduceNeg, Int.reduceAdd, Int.reduceSub, Int.reduceEq, reduceIte, reduceCtorEq, UInt8.reduceOfNat, hL]
  repeat refine And.intro (by first | omega | assumption | (simp; done) | (simp; omega) | (simp +contextual; done) | (simp_all; done) | (simp_all; omega)) ?_
  refine hK _ ?_
  clear hK K
  refine WA.cond rfl (fun h => ?_) (fun h => ?_)
  ·
    with_reducible refine WA.skipN ?_
    repeat first | with_reducible refine WN.t ?_ | with_reducible refine WN.b ?_
    have h6 : i < l.length := by have := of_decide_eq_true h; omega
    clear h
    have g := ia_at h6
    refine WA.seq ?_
    refine WA.block ?_
    refine WA.drawnK mixed_ ty_ok hs (tbl := [[], [], [0, 1], [0, 1, 2], [], [], [4, 5], [4, 5, 6], [0, 1, 2, 3, 4, 5, 6, 7]]) (nb := [3, 7]) (by kernel_rfl) fun K hK => ?_
    simp only [go_sem, Nat.reduceAdd, Nat.reduceLT, Nat.reduceLeDiff, Nat.reduceEqDiff, Nat.reduceSub, Nat.reduceMul, Nat.reduceBEq, Nat.reduceBNe, Nat.reducePow, Nat.reduceDiv, Int.reduceLE, Int.reduceLT, Int.reduceToNat, Int.reduceNeg, Int.reduceAdd, Int.reduceSub, Int.reduceEq, reduceIte, reduceCtorEq, UInt8.reduceOfNat, g, hL]
    repeat refine And.intro (by first | omega | assumption | (simp; done) | (simp; omega) | (simp +contextual; done) | (simp_all; done) | (simp_all; omega)) ?_
    refine hK _ ?_
    clear hK K
    refine WA.cond rfl (fun h => ?_) (fun h => ?_)
    · simp at h
    with_reducible refine WA.skipN ?_
    repeat first | with_reducible refine WN.t ?_ | with_reducible refine WN.b ?_
    refine WA.regionE ty_ok hs fun K hK => ?_
    simp only [go_sem, Nat.reduceAdd, Nat.reduceLT, Nat.reduceLeDiff, Nat.reduceEqDiff, Nat.reduceSub, Nat.reduceMul, Nat.reduceBEq, Nat.reduceBNe, Nat.reducePow, Nat.reduceDiv, Int.reduceLE, Int.reduceLT, Int.reduceToNat, Int.reduceNeg, Int.reduceAdd, Int.reduceSub, Int.reduceEq, reduceIte, reduceCtorEq, UInt8.reduceOfNat, true_and]
    repeat refine And.intro (by first | omega | assumption | (simp; done) | (simp; omega) | (simp +contextual; done) | (simp_all; done) | (simp_all; omega)) ?_
    refine hK _ (roundE hX (fun k => k) (j := i + 1) (by omega) (by first | omega | (dsimp only; omega) | (simp; omega)) (by simp only [go_sem, Int.natCast_add, Nat.reduceAdd, Nat.reduceLT, Nat.reduceLeDiff, Nat.reduceEqDiff, Nat.reduceSub, Nat.reduceMul, Nat.reduceBEq, Nat.reduceBNe, Nat.reducePow, Nat.reduceDiv, Int.reduceLE, Int.reduceLT, Int.reduceToNat, Int.reduceNeg, Int.reduceAdd, Int.reduceSub, Int.reduceEq, reduceIte, reduceCtorEq, UInt8.reduceOfNat, hT] <;> (try and_intros) <;> (try omega)))
  ·
    with_reducible refine WA.exitX ?_
    repeat first | with_reducible refine WX.b ?_ | with_reducible refine WX.t ?_ | (with_reducible refine WX.n ?hne ?_; case hne => rfl)
    refine WA.regionK ty_ok hs fun K hK => ?_
    simp only [go_sem, Nat.reduceAdd, Nat.reduceLT, Nat.reduceLeDiff, Nat.reduceEqDiff, Nat.reduceSub, Nat.reduceMul, Nat.reduceBEq, Nat.reduceBNe, Nat.reducePow, Nat.reduceDiv, Int.reduceLE, Int.reduceLT, Int.reduceToNat, Int.reduceNeg, Int.reduceAdd, Int.reduceSub, Int.reduceEq, reduceIte, reduceCtorEq, UInt8.reduceOfNat, true_and]
    repeat refine And.intro (by first | omega | assumption | (simp; done) | (simp; omega) | (simp +contextual; done) | (simp_all; done) | (simp_all; omega)) ?_
    refine hK _ ?_
    clear hK K
    refine WA.retE ty_ok (xs := [.lit (.bool true)]) (ls' := []) (rv := [.tmp 4]) rfl hX (by decide) (fun _ => rfl) (fun _ _ h => h) ?_
    simp only [go_sem, Nat.reduceAdd, Nat.reduceLT, Nat.reduceLeDiff, Nat.reduceEqDiff, Nat.reduceSub, Nat.reduceMul, Nat.reduceBEq, Nat.reduceBNe, Nat.reducePow, Nat.reduceDiv, Int.reduceLE, Int.reduceLT, Int.reduceToNat, Int.reduceNeg, Int.reduceAdd, Int.reduceSub, Int.reduceEq, reduceIte, reduceCtorEq, UInt8.reduceOfNat, sbT]
    all_goals (first | done | exact Nat.le_refl _ | (simp; done) | (and_intros <;> first | omega | exact Nat.le_refl _ | (simp; done) | (simp; omega)))
def sgSa : Sg := fun f args ls =>
  match f, args, ls with
  | 37, [.by_ a, .by_ b], [] => some (.lit (.bool (decide (a = b))), [], True)
  | _, _, _ => none
theorem sgSa_ok : SgOK Try.prog sgSa := by
  intro f args ls r ls' vc h hvc
  unfold sgSa at h
  split at h <;> first | (simp only [Option.some.injEq, Prod.mk.injEq] at h; obtain ⟨rfl, rfl, rfl⟩ := h) | cases h
  exact ⟨(fnOK Try.func37 (by decide) rfl), rsame_s _ _⟩
theorem tsame_s (l : List Tm) : FnS Try.prog 14 [.li 7 (l.map tmA), .li 7 (l.map tmA)] [] (.lit (.bool true)) [] := by
  have hs := sgSa_ok
  have hT := Tr_tms l
  have hL : (l.map tmA).length = l.length := List.length_map _
  refine FnS.len fun hM _ => ?_
  have hM := hM 0 7 _ rfl
  rw [hL] at hM
  simp only [maxLen] at hM
  refine FnS.of Try.func14 rfl (N := 75) rfl (by simp) (by simp) fun X hX => ?_
  simp only [tmArgs, lentH, Nat.reduceAdd]
  refine WA.regionK ty_ok hs fun K hK => ?_
  simp only [go_sem, Nat.reduceAdd, Nat.reduceLT, Nat.reduceLeDiff, Nat.reduceEqDiff, Nat.reduceSub, Nat.reduceMul, Nat.reduceBEq, Nat.reduceBNe, Nat.reducePow, Nat.reduceDiv, Int.reduceLE, Int.reduceLT, Int.reduceToNat, Int.reduceNeg, Int.reduceAdd, Int.reduceSub, Int.reduceEq, reduceIte, reduceCtorEq, UInt8.reduceOfNat, true_and]
  repeat refine And.intro (by first | omega | assumption | (simp; done) | (simp; omega) | (simp +contextual; done) | (simp_all; done) | (simp_all; omega)) ?_
  refine hK _ ?_
  clear hK K
  refine WA.seq ?_
  refine WA.regionK ty_ok hs fun K hK => ?_
  simp only [go_sem, Nat.reduceAdd, Nat.reduceLT, Nat.reduceLeDiff, Nat.reduceEqDiff, Nat.reduceSub, Nat.reduceMul, Nat.reduceBEq, Nat.reduceBNe, Nat.reducePow, Nat.reduceDiv, Int.reduceLE, Int.reduceLT, Int.reduceToNat, Int.reduceNeg, Int.reduceAdd, Int.reduceSub, Int.reduceEq, reduceIte, reduceCtorEq, UInt8.reduceOfNat, hL]
  repeat refine And.intro (by first | omega | assumption | (simp; done) | (simp; omega) | (simp +contextual; done) | (simp_all; done) | (simp_all; omega)) ?_
  refine hK _ ?_
  clear hK K
  refine WA.cond rfl (fun h => ?_) (fun h => ?_)
  · simp at h
  with_reducible refine WA.skipN ?_
  repeat first | with_reducible refine WN.t ?_ | with_reducible refine WN.b ?_
  refine WA.seq ?_
  refine WA.regionK ty_ok hs fun K hK => ?_
  simp only [go_sem, Nat.reduceAdd, Nat.reduceLT, Nat.reduceLeDiff, Nat.reduceEqDiff, Nat.reduceSub, Nat.reduceMul, Nat.reduceBEq, Nat.reduceBNe, Nat.reducePow, Nat.reduceDiv, Int.reduceLE, Int.reduceLT, Int.reduceToNat, Int.reduceNeg, Int.reduceAdd, Int.reduceSub, Int.reduceEq, reduceIte, reduceCtorEq, UInt8.reduceOfNat, hL]
  repeat refine And.intro (by first | omega | assumption | (simp; done) | (simp; omega) | (simp +contextual; done) | (simp_all; done) | (simp_all; omega)) ?_
  refine hK _ ?_
  clear hK K
  refine WA.block ?_
  refine WA.loopW hX (fun k => k) ((fun (i : Nat) => ⟨[(0, .li 7 (l.map tmA)), (1, .li 7 (l.map tmA)), (5, .lit (.int .i64 (i : Nat)))], [], 3000, 75⟩ : _ → St)) (fun i => l.length - i) (fun i => i ≤ l.length) (i0 := 0) (by omega) (by simp only [go_sem, Int.natCast_add, Nat.reduceAdd, Nat.reduceLT, Nat.reduceLeDiff, Nat.reduceEqDiff, Nat.reduceSub, Nat.reduceMul, Nat.reduceBEq, Nat.reduceBNe, Nat.reducePow, Nat.reduceDiv, Int.reduceLE, Int.reduceLT, Int.reduceToNat, Int.reduceNeg, Int.reduceAdd, Int.reduceSub, Int.reduceEq, reduceIte, reduceCtorEq, UInt8.reduceOfNat, hT] <;> (try and_intros) <;> (try omega)) fun i hi => ?_
  refine WA.seq ?_
  refine WA.regionK ty_ok hs fun K hK => ?_
  simp only [go_sem, Nat.reduceAdd, Nat.reduceLT, Nat.reduceLeDiff, Nat.reduceEqDiff, Nat.reduceSub, Nat.reduceMul, Nat.reduceBEq, Nat.reduceBNe, Nat.reducePow, Nat.reduceDiv, Int.reduceLE, Int.reduceLT, Int.reduceToNat, Int.reduceNeg, Int.reduceAdd, Int.reduceSub, Int.reduceEq, reduceIte, reduceCtorEq, UInt8.reduceOfNat, hL]
  repeat refine And.intro (by first | omega | assumption | (simp; done) | (simp; omega) | (simp +contextual; done) | (simp_all; done) | (simp_all; omega)) ?_
  refine hK _ ?_
  clear hK K
  refine WA.cond rfl (fun h => ?_) (fun h => ?_)
  ·
    with_reducible refine WA.skipN ?_
    repeat first | with_reducible refine WN.t ?_ | with_reducible refine WN.b ?_
    have h6 : i < l.length := by have := of_decide_eq_true h; omega
    clear h
    have g := tm_at h6
    refine WA.seq ?_
    refine WA.block ?_
    refine WA.drawnH mixed_ ty_ok hs (tbl := [[], [], [0, 1], [0, 1, 2], [], [], [4, 5], [4, 5, 6], [], [], [0, 1, 2, 3, 8, 9], [0, 1, 2, 3, 4, 5, 6, 7, 8, 9, 10]]) (nb := [3, 7, 10, 11]) (hk := [[], [], [], [], [3096], [3096], [3096], [3096], [], [], [], []]) (by kernel_rfl) fun K hK => ?_
    simp only [go_sem, Nat.reduceAdd, Nat.reduceLT, Nat.reduceLeDiff, Nat.reduceEqDiff, Nat.reduceSub, Nat.reduceMul, Nat.reduceBEq, Nat.reduceBNe, Nat.reducePow, Nat.reduceDiv, Int.reduceLE, Int.reduceLT, Int.reduceToNat, Int.reduceNeg, Int.reduceAdd, Int.reduceSub, Int.reduceEq, reduceIte, reduceCtorEq, UInt8.reduceOfNat, g, hL]
    repeat refine And.intro (by first | omega | assumption | (simp; done) | (simp; omega) | (simp +contextual; done) | (simp_all; done) | (simp_all; omega)) ?_
    refine hK _ ?_
    clear hK K
    refine WA.regionK ty_ok hs fun K hK => ?_
    simp only [go_sem, Nat.reduceAdd, Nat.reduceLT, Nat.reduceLeDiff, Nat.reduceEqDiff, Nat.reduceSub, Nat.reduceMul, Nat.reduceBEq, Nat.reduceBNe, Nat.reducePow, Nat.reduceDiv, Int.reduceLE, Int.reduceLT, Int.reduceToNat, Int.reduceNeg, Int.reduceAdd, Int.reduceSub, Int.reduceEq, reduceIte, reduceCtorEq, UInt8.reduceOfNat, sgSa, bne_self_eq_false, decide_true, Bool.not_true, cond_false]
    repeat refine And.intro (by first | omega | assumption | (simp; done) | (simp; omega) | (simp +contextual; done) | (simp_all; done) | (simp_all; omega)) ?_
    refine hK _ ?_
    clear hK K
    refine WA.cond rfl (fun h => ?_) (fun h => ?_)
    · simp at h
    with_reducible refine WA.skipN ?_
    repeat first | with_reducible refine WN.t ?_ | with_reducible refine WN.b ?_
    refine WA.regionE ty_ok hs fun K hK => ?_
    simp only [go_sem, Nat.reduceAdd, Nat.reduceLT, Nat.reduceLeDiff, Nat.reduceEqDiff, Nat.reduceSub, Nat.reduceMul, Nat.reduceBEq, Nat.reduceBNe, Nat.reducePow, Nat.reduceDiv, Int.reduceLE, Int.reduceLT, Int.reduceToNat, Int.reduceNeg, Int.reduceAdd, Int.reduceSub, Int.reduceEq, reduceIte, reduceCtorEq, UInt8.reduceOfNat, true_and]
    repeat refine And.intro (by first | omega | assumption | (simp; done) | (simp; omega) | (simp +contextual; done) | (simp_all; done) | (simp_all; omega)) ?_
    refine hK _ (roundE hX (fun k => k) (j := i + 1) (by omega) (by first | omega | (dsimp only; omega) | (simp; omega)) (by simp only [go_sem, Int.natCast_add, Nat.reduceAdd, Nat.reduceLT, Nat.reduceLeDiff, Nat.reduceEqDiff, Nat.reduceSub, Nat.reduceMul, Nat.reduceBEq, Nat.reduceBNe, Nat.reducePow, Nat.reduceDiv, Int.reduceLE, Int.reduceLT, Int.reduceToNat, Int.reduceNeg, Int.reduceAdd, Int.reduceSub, Int.reduceEq, reduceIte, reduceCtorEq, UInt8.reduceOfNat, hT] <;> (try and_intros) <;> (try omega)))
  ·
    with_reducible refine WA.exitX ?_
    repeat first | with_reducible refine WX.b ?_ | with_reducible refine WX.t ?_ | (with_reducible refine WX.n ?hne ?_; case hne => rfl)
    refine WA.regionK ty_ok hs fun K hK => ?_
    simp only [go_sem, Nat.reduceAdd, Nat.reduceLT, Nat.reduceLeDiff, Nat.reduceEqDiff, Nat.reduceSub, Nat.reduceMul, Nat.reduceBEq, Nat.reduceBNe, Nat.reducePow, Nat.reduceDiv, Int.reduceLE, Int.reduceLT, Int.reduceToNat, Int.reduceNeg, Int.reduceAdd, Int.reduceSub, Int.reduceEq, reduceIte, reduceCtorEq, UInt8.reduceOfNat, true_and]
    repeat refine And.intro (by first | omega | assumption | (simp; done) | (simp; omega) | (simp +contextual; done) | (simp_all; done) | (simp_all; omega)) ?_
    refine hK _ ?_
    clear hK K
    refine WA.retE ty_ok (xs := [.lit (.bool true)]) (ls' := []) (rv := [.tmp 4]) rfl hX (by decide) (fun _ => rfl) (fun _ _ h => h) ?_
    simp only [go_sem, Nat.reduceAdd, Nat.reduceLT, Nat.reduceLeDiff, Nat.reduceEqDiff, Nat.reduceSub, Nat.reduceMul, Nat.reduceBEq, Nat.reduceBNe, Nat.reducePow, Nat.reduceDiv, Int.reduceLE, Int.reduceLT, Int.reduceToNat, Int.reduceNeg, Int.reduceAdd, Int.reduceSub, Int.reduceEq, reduceIte, reduceCtorEq, UInt8.reduceOfNat, sbT]
    all_goals (first | done | exact Nat.le_refl _ | (simp; done) | (and_intros <;> first | omega | exact Nat.le_refl _ | (simp; done) | (simp; omega)))

/-! ### Objects -/
mutual
def ndS : Nd → Nat
  | .mk _ _ k => 1 + ndsS k
def ndsS : List Nd → Nat
  | [] => 0
  | x :: l => 1 + ndS x + ndsS l
end
theorem ndsS_at : ∀ {l : List Nd} {i : Nat} (h : i < l.length), ndsS l[i].kids < ndsS l
  | x :: l, 0, _ => by
    cases x
    simp only [List.getElem_cons_zero, Nd.kids, ndsS, ndS]
    omega
  | x :: l, i + 1, h => by
    have := ndsS_at (l := l) (i := i) (by simpa using h)
    simp only [List.getElem_cons_succ, ndsS]
    omega
def sgNs (n : Nat) : Sg := fun f args ls =>
  match f, args, ls with
  | 10, [.li 3 xs, .li 3 ys], [] => some (.lit (.bool true), [], (xs = ndsA (unNs xs) ∧ ys = xs) ∧ ndsS (unNs xs) < n)
  | _, _, _ => none
theorem nsame_s : ∀ (n : Nat) (l : List Nd), ndsS l < n → FnS Try.prog 10 [.li 3 (ndsA l), .li 3 (ndsA l)] [] (.lit (.bool true)) [] := by
  intro n
  induction n with
  | zero => intro l h; omega
  | succ n ih =>
  intro l hl
  have hs : SgOK Try.prog (sgNs n) := by
    intro f args ls r ls' vc h hvc
    unfold sgNs at h
    split at h <;> first | (simp only [Option.some.injEq, Prod.mk.injEq] at h; obtain ⟨rfl, rfl, rfl⟩ := h) | cases h
    rename_i xs ys
    refine ⟨(fnOK Try.func10 (by decide) rfl), ?_⟩
    have := ih (unNs xs) hvc.2
    rw [← hvc.1.1] at this
    rw [hvc.1.2]
    exact this
  have hT := Tr_nds l
  have hL := nds_len l
  refine FnS.len fun hM _ => ?_
  have hM := hM 0 3 _ rfl
  rw [hL] at hM
  simp only [maxLen] at hM
  refine FnS.of Try.func10 rfl (N := 57) rfl (by simp) (by simp) fun X hX => ?_
  simp only [tmArgs, lentH, Nat.reduceAdd]
  refine WA.regionK ty_ok hs fun K hK => ?_
  simp only [go_sem, Nat.reduceAdd, Nat.reduceLT, Nat.reduceLeDiff, Nat.reduceEqDiff, Nat.reduceSub, Nat.reduceMul, Nat.reduceBEq, Nat.reduceBNe, Nat.reducePow, Nat.reduceDiv, Int.reduceLE, Int.reduceLT, Int.reduceToNat, Int.reduceNeg, Int.reduceAdd, Int.reduceSub, Int.reduceEq, reduceIte, reduceCtorEq, UInt8.reduceOfNat, true_and]
  repeat refine And.intro (by first | omega | assumption | (simp; done) | (simp; omega) | (simp +contextual; done) | (simp_all; done) | (simp_all; omega)) ?_
  refine hK _ ?_
  clear hK K
  refine WA.seq ?_
  refine WA.regionK ty_ok hs fun K hK => ?_
  simp only [go_sem, Nat.reduceAdd, Nat.reduceLT, Nat.reduceLeDiff, Nat.reduceEqDiff, Nat.reduceSub, Nat.reduceMul, Nat.reduceBEq, Nat.reduceBNe, Nat.reducePow, Nat.reduceDiv, Int.reduceLE, Int.reduceLT, Int.reduceToNat, Int.reduceNeg, Int.reduceAdd, Int.reduceSub, Int.reduceEq, reduceIte, reduceCtorEq, UInt8.reduceOfNat, hL]
  repeat refine And.intro (by first | omega | assumption | (simp; done) | (simp; omega) | (simp +contextual; done) | (simp_all; done) | (simp_all; omega)) ?_
  refine hK _ ?_
  clear hK K
  refine WA.cond rfl (fun h => ?_) (fun h => ?_)
  · simp at h
  with_reducible refine WA.skipN ?_
  repeat first | with_reducible refine WN.t ?_ | with_reducible refine WN.b ?_
  refine WA.seq ?_
  refine WA.regionK ty_ok hs fun K hK => ?_
  simp only [go_sem, Nat.reduceAdd, Nat.reduceLT, Nat.reduceLeDiff, Nat.reduceEqDiff, Nat.reduceSub, Nat.reduceMul, Nat.reduceBEq, Nat.reduceBNe, Nat.reducePow, Nat.reduceDiv, Int.reduceLE, Int.reduceLT, Int.reduceToNat, Int.reduceNeg, Int.reduceAdd, Int.reduceSub, Int.reduceEq, reduceIte, reduceCtorEq, UInt8.reduceOfNat, hL]
  repeat refine And.intro (by first | omega | assumption | (simp; done) | (simp; omega) | (simp +contextual; done) | (simp_all; done) | (simp_all; omega)) ?_
  refine hK _ ?_
  clear hK K
  refine WA.block ?_
  refine WA.loopW hX (fun k => k) ((fun (i : Nat) => ⟨[(0, .li 3 (ndsA l)), (1, .li 3 (ndsA l)), (5, .lit (.int .i64 (i : Nat)))], [], 3000, 57⟩ : _ → St)) (fun i => l.length - i) (fun i => i ≤ l.length) (i0 := 0) (by omega) (by simp only [go_sem, Int.natCast_add, Nat.reduceAdd, Nat.reduceLT, Nat.reduceLeDiff, Nat.reduceEqDiff, Nat.reduceSub, Nat.reduceMul, Nat.reduceBEq, Nat.reduceBNe, Nat.reducePow, Nat.reduceDiv, Int.reduceLE, Int.reduceLT, Int.reduceToNat, Int.reduceNeg, Int.reduceAdd, Int.reduceSub, Int.reduceEq, reduceIte, reduceCtorEq, UInt8.reduceOfNat, hT] <;> (try and_intros) <;> (try omega)) fun i hi => ?_
  refine WA.seq ?_
  refine WA.regionK ty_ok hs fun K hK => ?_
  simp only [go_sem, Nat.reduceAdd, Nat.reduceLT, Nat.reduceLeDiff, Nat.reduceEqDiff, Nat.reduceSub, Nat.reduceMul, Nat.reduceBEq, Nat.reduceBNe, Nat.reducePow, Nat.reduceDiv, Int.reduceLE, Int.reduceLT, Int.reduceToNat, Int.reduceNeg, Int.reduceAdd, Int.reduceSub, Int.reduceEq, reduceIte, reduceCtorEq, UInt8.reduceOfNat, hL]
  repeat refine And.intro (by first | omega | assumption | (simp; done) | (simp; omega) | (simp +contextual; done) | (simp_all; done) | (simp_all; omega)) ?_
  refine hK _ ?_
  clear hK K
  refine WA.cond rfl (fun h => ?_) (fun h => ?_)
  ·
    with_reducible refine WA.skipN ?_
    repeat first | with_reducible refine WN.t ?_ | with_reducible refine WN.b ?_
    have h6 : i < l.length := by have := of_decide_eq_true h; omega
    clear h
    have g := nd_at h6
    have g2 := un_nds l[i].kids
    have g3 : ndsS l[i].kids < n := by have := ndsS_at h6; omega
    refine WA.seq ?_
    refine WA.block ?_
    refine WA.drawnK mixed_ ty_ok hs (tbl := [[], [], [0, 1], [0, 1, 2], [0, 1, 2, 3], [], [], [5, 6], [5, 6, 7], [5, 6, 7, 8], [0, 1, 2, 3, 4, 5, 6, 7, 8, 9], [0, 1, 2, 3, 4, 5, 6, 7, 8, 9, 10], [0, 1, 2, 3, 4, 5, 6, 7, 8, 9, 10, 11], [0, 1, 2, 3, 4, 5, 6, 7, 8, 9, 10, 11], [0, 1, 2, 3, 4, 5, 6, 7, 8, 9, 10, 11, 12, 13], [0, 1, 2, 3, 4, 5, 6, 7, 8, 9, 10, 11, 12, 13, 14], [0, 1, 2, 3, 4, 5, 6, 7, 8, 9, 10, 11, 12, 13, 14, 15], [0, 1, 2, 3, 4, 5, 6, 7, 8, 9, 10, 11, 12, 13, 14, 15, 16], [0, 1, 2, 3, 4, 5, 6, 7, 8, 9, 10, 11], [0, 1, 2, 3, 4, 5, 6, 7, 8, 9, 10, 11], [0, 1, 2, 3, 4, 5, 6, 7, 8, 9, 10, 11, 18, 19], [0, 1, 2, 3, 4, 5, 6, 7, 8, 9, 10, 11, 18, 19, 20], [0, 1, 2, 3, 4, 5, 6, 7, 8, 9, 10, 11, 18, 19, 20, 21], [0, 1, 2, 3, 4, 5, 6, 7, 8, 9, 10, 11, 18, 19, 20, 21, 22], [0, 1, 2, 3, 4, 5, 6, 7, 8, 9, 10, 11, 12, 13, 14, 15, 16, 17, 18, 19, 20, 21, 22, 23], [0, 1, 2, 3, 4, 5, 6, 7, 8, 9, 10, 11, 12, 13, 14, 15, 16, 17, 18, 19, 20, 21, 22, 23, 24], [0, 1, 2, 3, 4, 5, 6, 7, 8, 9, 10, 11, 12, 13, 14, 15, 16, 17, 18, 19, 20, 21, 22, 23, 24, 25], [0, 1, 2, 3, 4, 5, 6, 7, 8, 9, 10, 11, 12, 13, 14, 15, 16, 17, 18, 19, 20, 21, 22, 23, 24, 25, 26], [0, 1, 2, 3, 4, 5, 6, 7, 8, 9, 10, 11, 12, 13, 14, 15, 16, 17, 18, 19, 20, 21, 22, 23, 24, 25, 26], [0, 1, 2, 3, 4, 5, 6, 7, 8, 9, 10, 11, 12, 13, 14, 15, 16, 17, 18, 19, 20, 21, 22, 23, 24, 25, 26, 27, 28], [0, 1, 2, 3, 4, 5, 6, 7, 8, 9, 10, 11, 12, 13, 14, 15, 16, 17, 18, 19, 20, 21, 22, 23, 24, 25, 26, 27, 28, 29], [0, 1, 2, 3, 4, 5, 6, 7, 8, 9, 10, 11, 12, 13, 14, 15, 16, 17, 18, 19, 20, 21, 22, 23, 24, 25, 26, 27, 28, 29, 30], [0, 1, 2, 3, 4, 5, 6, 7, 8, 9, 10, 11, 12, 13, 14, 15, 16, 17, 18, 19, 20, 21, 22, 23, 24, 25, 26], [0, 1, 2, 3, 4, 5, 6, 7, 8, 9, 10, 11, 12, 13, 14, 15, 16, 17, 18, 19, 20, 21, 22, 23, 24, 25, 26], [0, 1, 2, 3, 4, 5, 6, 7, 8, 9, 10, 11, 12, 13, 14, 15, 16, 17, 18, 19, 20, 21, 22, 23, 24, 25, 26, 32, 33], [0, 1, 2, 3, 4, 5, 6, 7, 8, 9, 10, 11, 12, 13, 14, 15, 16, 17, 18, 19, 20, 21, 22, 23, 24, 25, 26, 32, 33, 34], [0, 1, 2, 3, 4, 5, 6, 7, 8, 9, 10, 11, 12, 13, 14, 15, 16, 17, 18, 19, 20, 21, 22, 23, 24, 25, 26, 32, 33, 34, 35], [0, 1, 2, 3, 4, 5, 6, 7, 8, 9, 10, 11, 12, 13, 14, 15, 16, 17, 18, 19, 20, 21, 22, 23, 24, 25, 26, 27, 28, 29, 30, 31, 32, 33, 34, 35, 36], [0, 1, 2, 3, 4, 5, 6, 7, 8, 9, 10, 11, 12, 13, 14, 15, 16, 17, 18, 19, 20, 21, 22, 23, 24, 25, 26, 27, 28, 29, 30, 31, 32, 33, 34, 35, 36, 37], [0, 1, 2, 3, 4, 5, 6, 7, 8, 9, 10, 11, 12, 13, 14, 15, 16, 17, 18, 19, 20, 21, 22, 23, 24, 25, 26, 27, 28, 29, 30, 31, 32, 33, 34, 35, 36, 37, 38]]) (nb := [4, 9, 16, 22, 31, 36, 37]) (by kernel_rfl) fun K hK => ?_
    simp only [go_sem, Nat.reduceAdd, Nat.reduceLT, Nat.reduceLeDiff, Nat.reduceEqDiff, Nat.reduceSub, Nat.reduceMul, Nat.reduceBEq, Nat.reduceBNe, Nat.reducePow, Nat.reduceDiv, Int.reduceLE, Int.reduceLT, Int.reduceToNat, Int.reduceNeg, Int.reduceAdd, Int.reduceSub, Int.reduceEq, reduceIte, reduceCtorEq, UInt8.reduceOfNat, sgNs, g, g2, g3, hL, Tr_nds, bne_self_eq_false, Bool.not_true, cond_false, beq_self_eq_true]
    repeat refine And.intro (by first | omega | assumption | (simp; done) | (simp; omega) | (simp +contextual; done) | (simp_all; done) | (simp_all; omega)) ?_
    refine hK _ ?_
    clear hK K
    refine WA.cond rfl (fun h => ?_) (fun h => ?_)
    · simp at h
    with_reducible refine WA.skipN ?_
    repeat first | with_reducible refine WN.t ?_ | with_reducible refine WN.b ?_
    refine WA.regionE ty_ok hs fun K hK => ?_
    simp only [go_sem, Nat.reduceAdd, Nat.reduceLT, Nat.reduceLeDiff, Nat.reduceEqDiff, Nat.reduceSub, Nat.reduceMul, Nat.reduceBEq, Nat.reduceBNe, Nat.reducePow, Nat.reduceDiv, Int.reduceLE, Int.reduceLT, Int.reduceToNat, Int.reduceNeg, Int.reduceAdd, Int.reduceSub, Int.reduceEq, reduceIte, reduceCtorEq, UInt8.reduceOfNat, true_and]
    repeat refine And.intro (by first | omega | assumption | (simp; done) | (simp; omega) | (simp +contextual; done) | (simp_all; done) | (simp_all; omega)) ?_
    refine hK _ (roundE hX (fun k => k) (j := i + 1) (by omega) (by first | omega | (dsimp only; omega) | (simp; omega)) (by simp only [go_sem, Int.natCast_add, Nat.reduceAdd, Nat.reduceLT, Nat.reduceLeDiff, Nat.reduceEqDiff, Nat.reduceSub, Nat.reduceMul, Nat.reduceBEq, Nat.reduceBNe, Nat.reducePow, Nat.reduceDiv, Int.reduceLE, Int.reduceLT, Int.reduceToNat, Int.reduceNeg, Int.reduceAdd, Int.reduceSub, Int.reduceEq, reduceIte, reduceCtorEq, UInt8.reduceOfNat, hT] <;> (try and_intros) <;> (try omega)))
  ·
    with_reducible refine WA.exitX ?_
    repeat first | with_reducible refine WX.b ?_ | with_reducible refine WX.t ?_ | (with_reducible refine WX.n ?hne ?_; case hne => rfl)
    refine WA.regionK ty_ok hs fun K hK => ?_
    simp only [go_sem, Nat.reduceAdd, Nat.reduceLT, Nat.reduceLeDiff, Nat.reduceEqDiff, Nat.reduceSub, Nat.reduceMul, Nat.reduceBEq, Nat.reduceBNe, Nat.reducePow, Nat.reduceDiv, Int.reduceLE, Int.reduceLT, Int.reduceToNat, Int.reduceNeg, Int.reduceAdd, Int.reduceSub, Int.reduceEq, reduceIte, reduceCtorEq, UInt8.reduceOfNat, true_and]
    repeat refine And.intro (by first | omega | assumption | (simp; done) | (simp; omega) | (simp +contextual; done) | (simp_all; done) | (simp_all; omega)) ?_
    refine hK _ ?_
    clear hK K
    refine WA.retE ty_ok (xs := [.lit (.bool true)]) (ls' := []) (rv := [.tmp 4]) rfl hX (by decide) (fun _ => rfl) (fun _ _ h => h) ?_
    simp only [go_sem, Nat.reduceAdd, Nat.reduceLT, Nat.reduceLeDiff, Nat.reduceEqDiff, Nat.reduceSub, Nat.reduceMul, Nat.reduceBEq, Nat.reduceBNe, Nat.reducePow, Nat.reduceDiv, Int.reduceLE, Int.reduceLT, Int.reduceToNat, Int.reduceNeg, Int.reduceAdd, Int.reduceSub, Int.reduceEq, reduceIte, reduceCtorEq, UInt8.reduceOfNat, sbT]
    all_goals (first | done | exact Nat.le_refl _ | (simp; done) | (and_intros <;> first | omega | exact Nat.le_refl _ | (simp; done) | (simp; omega)))

/-! ### Few objects, not deeply nested -/
def smaL : Nat → List Nd → Bool
  | 0, l => (l.length : Int) == 0
  | d + 1, l => if 40 < l.length then false else l.all fun n => smaL d n.kids
def sgSm (d : Nat) : Sg := fun f args ls =>
  match f, args, ls with
  | 11, [.li 3 xs, .lit (.int .i64 k)], [] => some (.lit (.bool (smaL d (unNs xs))), [], xs = ndsA (unNs xs) ∧ k = d)
  | _, _, _ => none
theorem small_s : ∀ (d : Nat) (l : List Nd), d ≤ 100 → FnS Try.prog 11 [.li 3 (ndsA l), .lit (.int .i64 (d : Nat))] [] (.lit (.bool (smaL d l))) [] := by
  intro d
  induction d with
  | zero =>
    intro l _
    have hs := sg0_ok
    have hL := nds_len l
    refine FnS.of Try.func11 rfl (N := 29) rfl (by simp) (by simp) fun X hX => ?_
    simp only [tmArgs, lentH, Nat.reduceAdd]
    refine WA.regionK ty_ok hs fun K hK => ?_
    simp only [go_sem, Nat.reduceAdd, Nat.reduceLT, Nat.reduceLeDiff, Nat.reduceEqDiff, Nat.reduceSub, Nat.reduceMul, Nat.reduceBEq, Nat.reduceBNe, Nat.reducePow, Nat.reduceDiv, Int.reduceLE, Int.reduceLT, Int.reduceToNat, Int.reduceNeg, Int.reduceAdd, Int.reduceSub, Int.reduceEq, reduceIte, reduceCtorEq, UInt8.reduceOfNat, true_and]
    repeat refine And.intro (by first | omega | assumption | (simp; done) | (simp; omega) | (simp +contextual; done) | (simp_all; done) | (simp_all; omega)) ?_
    refine hK _ ?_
    clear hK K
    refine WA.seq ?_
    refine WA.regionK ty_ok hs fun K hK => ?_
    simp only [go_sem, Nat.reduceAdd, Nat.reduceLT, Nat.reduceLeDiff, Nat.reduceEqDiff, Nat.reduceSub, Nat.reduceMul, Nat.reduceBEq, Nat.reduceBNe, Nat.reducePow, Nat.reduceDiv, Int.reduceLE, Int.reduceLT, Int.reduceToNat, Int.reduceNeg, Int.reduceAdd, Int.reduceSub, Int.reduceEq, reduceIte, reduceCtorEq, UInt8.reduceOfNat, true_and]
    repeat refine And.intro (by first | omega | assumption | (simp; done) | (simp; omega) | (simp +contextual; done) | (simp_all; done) | (simp_all; omega)) ?_
    refine hK _ ?_
    clear hK K
    refine WA.cond rfl (fun h => ?_) (fun h => ?_)
    ·
      refine WA.regionK ty_ok hs fun K hK => ?_
      simp only [go_sem, Nat.reduceAdd, Nat.reduceLT, Nat.reduceLeDiff, Nat.reduceEqDiff, Nat.reduceSub, Nat.reduceMul, Nat.reduceBEq, Nat.reduceBNe, Nat.reducePow, Nat.reduceDiv, Int.reduceLE, Int.reduceLT, Int.reduceToNat, Int.reduceNeg, Int.reduceAdd, Int.reduceSub, Int.reduceEq, reduceIte, reduceCtorEq, UInt8.reduceOfNat, hL]
      repeat refine And.intro (by first | omega | assumption | (simp; done) | (simp; omega) | (simp +contextual; done) | (simp_all; done) | (simp_all; omega)) ?_
      refine hK _ ?_
      clear hK K
      refine WA.retE ty_ok (xs := [.lit (.bool (smaL 0 l))]) (ls' := []) (rv := [.tmp 4]) rfl hX (by decide) (fun _ => rfl) (fun _ _ h => h) ?_
      simp only [go_sem, Nat.reduceAdd, Nat.reduceLT, Nat.reduceLeDiff, Nat.reduceEqDiff, Nat.reduceSub, Nat.reduceMul, Nat.reduceBEq, Nat.reduceBNe, Nat.reducePow, Nat.reduceDiv, Int.reduceLE, Int.reduceLT, Int.reduceToNat, Int.reduceNeg, Int.reduceAdd, Int.reduceSub, Int.reduceEq, reduceIte, reduceCtorEq, UInt8.reduceOfNat, sbT, smaL]
      all_goals (first | done | exact Nat.le_refl _ | (simp; done) | (and_intros <;> first | omega | exact Nat.le_refl _ | (simp; done) | (simp; omega)))
    · cases h
  | succ d ih =>
    intro l hd
    have hs : SgOK Try.prog (sgSm d) := by
      intro f args ls r ls' vc h hvc
      unfold sgSm at h
      split at h <;> first | (simp only [Option.some.injEq, Prod.mk.injEq] at h; obtain ⟨rfl, rfl, rfl⟩ := h) | cases h
      rename_i xs k
      refine ⟨(fnOK Try.func11 (by decide) rfl), ?_⟩
      have := ih (unNs xs) (by omega)
      rw [← hvc.1] at this
      rw [hvc.2]
      exact this
    have hT := Tr_nds l
    have hL := nds_len l
    have e9 : ((d + 1 : Nat) : Int) - 1 = (d : Nat) := by omega
    have e8 : (((d + 1 : Nat) : Int) == 0) = false := beq_eq_false_iff_ne.2 (by omega)
    obtain ⟨z, hz⟩ : ∃ z : Int, ((d + 1 : Nat) : Int) = z := ⟨_, rfl⟩
    rw [hz] at e9 e8 ⊢
    refine FnS.len fun hM _ => ?_
    have hM := hM 0 3 _ rfl
    rw [hL] at hM
    simp only [maxLen] at hM
    refine FnS.of Try.func11 rfl (N := 29) rfl (by simp) (by simp) fun X hX => ?_
    simp only [tmArgs, lentH, Nat.reduceAdd]
    refine WA.regionK ty_ok hs fun K hK => ?_
    simp only [go_sem, Nat.reduceAdd, Nat.reduceLT, Nat.reduceLeDiff, Nat.reduceEqDiff, Nat.reduceSub, Nat.reduceMul, Nat.reduceBEq, Nat.reduceBNe, Nat.reducePow, Nat.reduceDiv, Int.reduceLE, Int.reduceLT, Int.reduceToNat, Int.reduceNeg, Int.reduceAdd, Int.reduceSub, Int.reduceEq, reduceIte, reduceCtorEq, UInt8.reduceOfNat, true_and]
    repeat refine And.intro (by first | omega | assumption | (simp; done) | (simp; omega) | (simp +contextual; done) | (simp_all; done) | (simp_all; omega)) ?_
    refine hK _ ?_
    clear hK K
    refine WA.seq ?_
    refine WA.regionK ty_ok hs fun K hK => ?_
    simp only [go_sem, Nat.reduceAdd, Nat.reduceLT, Nat.reduceLeDiff, Nat.reduceEqDiff, Nat.reduceSub, Nat.reduceMul, Nat.reduceBEq, Nat.reduceBNe, Nat.reducePow, Nat.reduceDiv, Int.reduceLE, Int.reduceLT, Int.reduceToNat, Int.reduceNeg, Int.reduceAdd, Int.reduceSub, Int.reduceEq, reduceIte, reduceCtorEq, UInt8.reduceOfNat, e8]
    repeat refine And.intro (by first | omega | assumption | (simp; done) | (simp; omega) | (simp +contextual; done) | (simp_all; done) | (simp_all; omega)) ?_
    refine hK _ ?_
    clear hK K
    refine WA.cond rfl (fun h => ?_) (fun h => ?_)
    · cases h
    with_reducible refine WA.skipN ?_
    repeat first | with_reducible refine WN.t ?_ | with_reducible refine WN.b ?_
    refine WA.seq ?_
    refine WA.regionK ty_ok hs fun K hK => ?_
    simp only [go_sem, Nat.reduceAdd, Nat.reduceLT, Nat.reduceLeDiff, Nat.reduceEqDiff, Nat.reduceSub, Nat.reduceMul, Nat.reduceBEq, Nat.reduceBNe, Nat.reducePow, Nat.reduceDiv, Int.reduceLE, Int.reduceLT, Int.reduceToNat, Int.reduceNeg, Int.reduceAdd, Int.reduceSub, Int.reduceEq, reduceIte, reduceCtorEq, UInt8.reduceOfNat, hL]
    repeat refine And.intro (by first | omega | assumption | (simp; done) | (simp; omega) | (simp +contextual; done) | (simp_all; done) | (simp_all; omega)) ?_
    refine hK _ ?_
    clear hK K
    refine WA.cond rfl (fun h => ?_) (fun h => ?_)
    ·
      have h : 40 < (l.length : Int) := by first | (simp only [Bool.and_eq_true, Bool.or_eq_true, Bool.not_eq_true', decide_eq_true_eq, decide_eq_false_iff_not, beq_iff_eq, bne_iff_ne, ne_eq, Bool.not_eq_eq_eq_not, Bool.not_true, Bool.not_false, beq_eq_false_iff_ne, bne_eq_false_iff_eq, Bool.and_eq_false_imp, Bool.or_eq_false_iff, Bool.cond_false_right, Bool.cond_true_left, Bool.cond_false_left, Bool.cond_true_right, gt_iff_lt, ge_iff_le, true_and] at h; first | exact h | omega) | omega | simpa using h
      have e : smaL (d + 1) l = false := if_pos (by omega)
      rw [e]
      refine WA.regionK ty_ok hs fun K hK => ?_
      simp only [go_sem, Nat.reduceAdd, Nat.reduceLT, Nat.reduceLeDiff, Nat.reduceEqDiff, Nat.reduceSub, Nat.reduceMul, Nat.reduceBEq, Nat.reduceBNe, Nat.reducePow, Nat.reduceDiv, Int.reduceLE, Int.reduceLT, Int.reduceToNat, Int.reduceNeg, Int.reduceAdd, Int.reduceSub, Int.reduceEq, reduceIte, reduceCtorEq, UInt8.reduceOfNat, true_and]
      repeat refine And.intro (by first | omega | assumption | (simp; done) | (simp; omega) | (simp +contextual; done) | (simp_all; done) | (simp_all; omega)) ?_
      refine hK _ ?_
      clear hK K
      refine WA.retE ty_ok (xs := [.lit (.bool false)]) (ls' := []) (rv := [.tmp 4]) rfl hX (by decide) (fun _ => rfl) (fun _ _ h => h) ?_
      simp only [go_sem, Nat.reduceAdd, Nat.reduceLT, Nat.reduceLeDiff, Nat.reduceEqDiff, Nat.reduceSub, Nat.reduceMul, Nat.reduceBEq, Nat.reduceBNe, Nat.reducePow, Nat.reduceDiv, Int.reduceLE, Int.reduceLT, Int.reduceToNat, Int.reduceNeg, Int.reduceAdd, Int.reduceSub, Int.reduceEq, reduceIte, reduceCtorEq, UInt8.reduceOfNat, sbT]
      all_goals (first | done | exact Nat.le_refl _ | (simp; done) | (and_intros <;> first | omega | exact Nat.le_refl _ | (simp; done) | (simp; omega)))
    have h : ¬ 40 < (l.length : Int) := by first | (simp only [Bool.and_eq_true, Bool.or_eq_true, Bool.not_eq_true', decide_eq_true_eq, decide_eq_false_iff_not, beq_iff_eq, bne_iff_ne, ne_eq, Bool.not_eq_eq_eq_not, Bool.not_true, Bool.not_false, beq_eq_false_iff_ne, bne_eq_false_iff_eq, Bool.and_eq_false_imp, Bool.or_eq_false_iff, Bool.cond_false_right, Bool.cond_true_left, Bool.cond_false_left, Bool.cond_true_right, gt_iff_lt, ge_iff_le, true_and] at h; first | exact h | omega) | omega | simpa using h
    have e : smaL (d + 1) l = l.all fun n => smaL d n.kids := if_neg (by omega)
    rw [e]
    with_reducible refine WA.skipN ?_
    repeat first | with_reducible refine WN.t ?_ | with_reducible refine WN.b ?_
    refine WA.seq ?_
    refine WA.regionK ty_ok hs fun K hK => ?_
    simp only [go_sem, Nat.reduceAdd, Nat.reduceLT, Nat.reduceLeDiff, Nat.reduceEqDiff, Nat.reduceSub, Nat.reduceMul, Nat.reduceBEq, Nat.reduceBNe, Nat.reducePow, Nat.reduceDiv, Int.reduceLE, Int.reduceLT, Int.reduceToNat, Int.reduceNeg, Int.reduceAdd, Int.reduceSub, Int.reduceEq, reduceIte, reduceCtorEq, UInt8.reduceOfNat, true_and]
    repeat refine And.intro (by first | omega | assumption | (simp; done) | (simp; omega) | (simp +contextual; done) | (simp_all; done) | (simp_all; omega)) ?_
    refine hK _ ?_
    clear hK K
    refine WA.block ?_
    refine WA.loopW hX (fun k => k) ((fun (i : Nat) => ⟨[(0, .li 3 (ndsA l)), (1, .lit (.int .i64 z)), (5, .lit (.int .i64 (i : Nat)))], [], 3000, 29⟩ : _ → St)) (fun i => l.length - i) (fun i => i ≤ l.length ∧ ∀ j (hj : j < i) (hl : j < l.length), smaL d l[j].kids = true) (i0 := 0) (⟨by omega, fun j hj => by omega⟩) (by simp only [go_sem, Int.natCast_add, Nat.reduceAdd, Nat.reduceLT, Nat.reduceLeDiff, Nat.reduceEqDiff, Nat.reduceSub, Nat.reduceMul, Nat.reduceBEq, Nat.reduceBNe, Nat.reducePow, Nat.reduceDiv, Int.reduceLE, Int.reduceLT, Int.reduceToNat, Int.reduceNeg, Int.reduceAdd, Int.reduceSub, Int.reduceEq, reduceIte, reduceCtorEq, UInt8.reduceOfNat, hT] <;> (try and_intros) <;> (try omega)) fun i hi => ?_
    obtain ⟨hi, hno⟩ := hi
    refine WA.seq ?_
    refine WA.regionK ty_ok hs fun K hK => ?_
    simp only [go_sem, Nat.reduceAdd, Nat.reduceLT, Nat.reduceLeDiff, Nat.reduceEqDiff, Nat.reduceSub, Nat.reduceMul, Nat.reduceBEq, Nat.reduceBNe, Nat.reducePow, Nat.reduceDiv, Int.reduceLE, Int.reduceLT, Int.reduceToNat, Int.reduceNeg, Int.reduceAdd, Int.reduceSub, Int.reduceEq, reduceIte, reduceCtorEq, UInt8.reduceOfNat, hL]
    repeat refine And.intro (by first | omega | assumption | (simp; done) | (simp; omega) | (simp +contextual; done) | (simp_all; done) | (simp_all; omega)) ?_
    refine hK _ ?_
    clear hK K
    refine WA.cond rfl (fun h => ?_) (fun h => ?_)
    ·
      with_reducible refine WA.skipN ?_
      repeat first | with_reducible refine WN.t ?_ | with_reducible refine WN.b ?_
      have h6 : i < l.length := by have := of_decide_eq_true h; omega
      clear h
      have g := nd_at h6
      have g2 := un_nds l[i].kids
      refine WA.seq ?_
      refine WA.block ?_
      refine WA.regionK ty_ok hs fun K hK => ?_
      simp only [go_sem, Nat.reduceAdd, Nat.reduceLT, Nat.reduceLeDiff, Nat.reduceEqDiff, Nat.reduceSub, Nat.reduceMul, Nat.reduceBEq, Nat.reduceBNe, Nat.reducePow, Nat.reduceDiv, Int.reduceLE, Int.reduceLT, Int.reduceToNat, Int.reduceNeg, Int.reduceAdd, Int.reduceSub, Int.reduceEq, reduceIte, reduceCtorEq, UInt8.reduceOfNat, sgSm, g, g2, e9, hL, Tr_nds]
      repeat refine And.intro (by first | omega | assumption | (simp; done) | (simp; omega) | (simp +contextual; done) | (simp_all; done) | (simp_all; omega)) ?_
      refine hK _ ?_
      clear hK K
      refine WA.cond rfl (fun h => ?_) (fun h => ?_)
      ·
        have h : smaL d l[i].kids = false := by first | (simp only [Bool.and_eq_true, Bool.or_eq_true, Bool.not_eq_true', decide_eq_true_eq, decide_eq_false_iff_not, beq_iff_eq, bne_iff_ne, ne_eq, Bool.not_eq_eq_eq_not, Bool.not_true, Bool.not_false, beq_eq_false_iff_ne, bne_eq_false_iff_eq, Bool.and_eq_false_imp, Bool.or_eq_false_iff, Bool.cond_false_right, Bool.cond_true_left, Bool.cond_false_left, Bool.cond_true_right, gt_iff_lt, ge_iff_le, true_and] at h; first | exact h | omega) | omega | simpa using h
        have e : (l.all fun n => smaL d n.kids) = false := List.all_eq_false.2 ⟨l[i], List.getElem_mem h6, by simp [h]⟩
        rw [e]
        refine WA.regionK ty_ok hs fun K hK => ?_
        simp only [go_sem, Nat.reduceAdd, Nat.reduceLT, Nat.reduceLeDiff, Nat.reduceEqDiff, Nat.reduceSub, Nat.reduceMul, Nat.reduceBEq, Nat.reduceBNe, Nat.reducePow, Nat.reduceDiv, Int.reduceLE, Int.reduceLT, Int.reduceToNat, Int.reduceNeg, Int.reduceAdd, Int.reduceSub, Int.reduceEq, reduceIte, reduceCtorEq, UInt8.reduceOfNat, true_and]
        repeat refine And.intro (by first | omega | assumption | (simp; done) | (simp; omega) | (simp +contextual; done) | (simp_all; done) | (simp_all; omega)) ?_
        refine hK _ ?_
        clear hK K
        refine WA.retE ty_ok (xs := [.lit (.bool false)]) (ls' := []) (rv := [.tmp 4]) rfl hX (by decide) (fun _ => rfl) (fun _ _ h => h) ?_
        simp only [go_sem, Nat.reduceAdd, Nat.reduceLT, Nat.reduceLeDiff, Nat.reduceEqDiff, Nat.reduceSub, Nat.reduceMul, Nat.reduceBEq, Nat.reduceBNe, Nat.reducePow, Nat.reduceDiv, Int.reduceLE, Int.reduceLT, Int.reduceToNat, Int.reduceNeg, Int.reduceAdd, Int.reduceSub, Int.reduceEq, reduceIte, reduceCtorEq, UInt8.reduceOfNat, sbT]
        all_goals (first | done | exact Nat.le_refl _ | (simp; done) | (and_intros <;> first | omega | exact Nat.le_refl _ | (simp; done) | (simp; omega)))
      ·
        have h : smaL d l[i].kids = true := by first | (simp only [Bool.and_eq_true, Bool.or_eq_true, Bool.not_eq_true', decide_eq_true_eq, decide_eq_false_iff_not, beq_iff_eq, bne_iff_ne, ne_eq, Bool.not_eq_eq_eq_not, Bool.not_true, Bool.not_false, beq_eq_false_iff_ne, bne_eq_false_iff_eq, Bool.and_eq_false_imp, Bool.or_eq_false_iff, Bool.cond_false_right, Bool.cond_true_left, Bool.cond_false_left, Bool.cond_true_right, gt_iff_lt, ge_iff_le, true_and] at h; first | exact h | omega) | omega | simpa using h
        with_reducible refine WA.skipN ?_
        repeat first | with_reducible refine WN.t ?_ | with_reducible refine WN.b ?_
        refine WA.regionE ty_ok hs fun K hK => ?_
        simp only [go_sem, Nat.reduceAdd, Nat.reduceLT, Nat.reduceLeDiff, Nat.reduceEqDiff, Nat.reduceSub, Nat.reduceMul, Nat.reduceBEq, Nat.reduceBNe, Nat.reducePow, Nat.reduceDiv, Int.reduceLE, Int.reduceLT, Int.reduceToNat, Int.reduceNeg, Int.reduceAdd, Int.reduceSub, Int.reduceEq, reduceIte, reduceCtorEq, UInt8.reduceOfNat, true_and]
        repeat refine And.intro (by first | omega | assumption | (simp; done) | (simp; omega) | (simp +contextual; done) | (simp_all; done) | (simp_all; omega)) ?_
        refine hK _ (roundE hX (fun k => k) (j := i + 1) (⟨by omega, fun j hj hl => by rcases Nat.lt_succ_iff_lt_or_eq.1 hj with q | rfl; exact hno j q hl; exact h⟩) (by first | omega | (dsimp only; omega) | (simp; omega)) (by simp only [go_sem, Int.natCast_add, Nat.reduceAdd, Nat.reduceLT, Nat.reduceLeDiff, Nat.reduceEqDiff, Nat.reduceSub, Nat.reduceMul, Nat.reduceBEq, Nat.reduceBNe, Nat.reducePow, Nat.reduceDiv, Int.reduceLE, Int.reduceLT, Int.reduceToNat, Int.reduceNeg, Int.reduceAdd, Int.reduceSub, Int.reduceEq, reduceIte, reduceCtorEq, UInt8.reduceOfNat, hT] <;> (try and_intros) <;> (try omega)))
    ·
      have h6 : i = l.length := by have := of_decide_eq_false h; omega
      subst h6
      have e : (l.all fun n => smaL d n.kids) = true := List.all_eq_true.2 fun n hn => by
        obtain ⟨j, hj, rfl⟩ := List.getElem_of_mem hn
        exact hno j hj hj
      rw [e]
      with_reducible refine WA.exitX ?_
      repeat first | with_reducible refine WX.b ?_ | with_reducible refine WX.t ?_ | (with_reducible refine WX.n ?hne ?_; case hne => rfl)
      refine WA.regionK ty_ok hs fun K hK => ?_
      simp only [go_sem, Nat.reduceAdd, Nat.reduceLT, Nat.reduceLeDiff, Nat.reduceEqDiff, Nat.reduceSub, Nat.reduceMul, Nat.reduceBEq, Nat.reduceBNe, Nat.reducePow, Nat.reduceDiv, Int.reduceLE, Int.reduceLT, Int.reduceToNat, Int.reduceNeg, Int.reduceAdd, Int.reduceSub, Int.reduceEq, reduceIte, reduceCtorEq, UInt8.reduceOfNat, true_and]
      repeat refine And.intro (by first | omega | assumption | (simp; done) | (simp; omega) | (simp +contextual; done) | (simp_all; done) | (simp_all; omega)) ?_
      refine hK _ ?_
      clear hK K
      refine WA.retE ty_ok (xs := [.lit (.bool true)]) (ls' := []) (rv := [.tmp 4]) rfl hX (by decide) (fun _ => rfl) (fun _ _ h => h) ?_
      simp only [go_sem, Nat.reduceAdd, Nat.reduceLT, Nat.reduceLeDiff, Nat.reduceEqDiff, Nat.reduceSub, Nat.reduceMul, Nat.reduceBEq, Nat.reduceBNe, Nat.reducePow, Nat.reduceDiv, Int.reduceLE, Int.reduceLT, Int.reduceToNat, Int.reduceNeg, Int.reduceAdd, Int.reduceSub, Int.reduceEq, reduceIte, reduceCtorEq, UInt8.reduceOfNat, sbT]
      all_goals (first | done | exact Nat.le_refl _ | (simp; done) | (and_intros <;> first | omega | exact Nat.le_refl _ | (simp; done) | (simp; omega)))
end Go.Proofs.Ytloihfflblgioaa
