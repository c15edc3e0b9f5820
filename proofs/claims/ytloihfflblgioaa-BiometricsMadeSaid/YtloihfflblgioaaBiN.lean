import Derived.Test.YtloihfflblgioaaBiJ
import Derived.Test.YtloihfflblgioaaBiK
namespace Go.Proofs.Ytloihfflblgioaa
open Go.RowKit Go.TravelBase Go.TravelAbs
set_option linter.unusedVariables false
set_option linter.unusedSimpArgs false

















/-! ### The laws BiometricsValid, BiometricsExact -/
def sgLa : Sg := fun f args ls =>
  match f, args, ls with
  | 15, [.agg [.lit (.int .i64 a), .lit (.int .i64 b), .lit (.int .i64 c), .lit (.int .i64 d), .lit (.int .i64 e), .lit (.int .i64 f), .by_ g]], [] => some (.lit (.int .i64 (valT ⟨a, b, c, d, e, f, g⟩)), [], True)
  | 16, [.agg [.lit (.int .i64 a), .lit (.int .i64 b), .lit (.int .i64 c), .lit (.int .i64 d), .lit (.int .i64 e), .lit (.int .i64 f), .by_ g]], [] => some (.lit (.int .i64 (valT ⟨a, b, c, d, e, f, g⟩)), [], True)
  | 9, [], [] => some (.lit (.bool true), [], True)
  | 18, [.li 7 xs, .lit (.int .i64 k), .lit (.int .i64 d)], [] => some (.li 1 ((usI (xs.map unT) k d (xs.map unT).length).map iA), [], xs = (xs.map unT).map tmA ∧ (xs.map unT).length ≤ 1954687338211)
  | 19, [.li 7 xs, .lit (.int .i64 k), .lit (.int .i64 d)], [] => some (.li 1 ((usI (xs.map unT) k d (xs.map unT).length).map iA), [], xs = (xs.map unT).map tmA ∧ (xs.map unT).length ≤ 1954687338211)
  | 17, [.li 1 xs, .li 1 ys], [] => some (.lit (.bool true), [], ys = xs ∧ xs = (xs.map unI).map iA)
  | _, _, _ => none
theorem sgLa_ok : SgOK Try.prog sgLa := by
  intro f args ls r ls' vc h hvc
  unfold sgLa at h
  split at h <;> first | (simp only [Option.some.injEq, Prod.mk.injEq] at h; obtain ⟨rfl, rfl, rfl⟩ := h) | cases h
  · rename_i a b c d e f g
    exact ⟨(fnOK Try.func15 (by decide) rfl), valid_s ⟨a, b, c, d, e, f, g⟩⟩
  · rename_i a b c d e f g
    exact ⟨(fnOK Try.func16 (by decide) rfl), rvalid_s ⟨a, b, c, d, e, f, g⟩⟩
  · exact ⟨(fnOK Try.func9 (by decide) rfl), awake_s⟩
  · rename_i xs k d
    refine ⟨(fnOK Try.func18 (by decide) rfl), ?_⟩
    have := usable_s (xs.map unT) k d hvc.2
    rw [← hvc.1] at this
    exact this
  · rename_i xs k d
    refine ⟨(fnOK Try.func19 (by decide) rfl), ?_⟩
    have := rusable_s (xs.map unT) k d hvc.2
    rw [← hvc.1] at this
    exact this
  · rename_i xs ys
    refine ⟨(fnOK Try.func17 (by decide) rfl), ?_⟩
    have := ints_s (xs.map unI)
    rw [← hvc.2] at this
    rw [hvc.1]
    exact this
theorem un_ia (l : List Int) : (l.map iA).map unI = l := by
  rw [List.map_map]
  exact (List.map_congr_left fun x _ => rfl).trans (List.map_id _)
theorem bvalid_s (l : List Tm) (kind day : Int) (hl : l.length ≤ 1954687338211) : FnS Try.prog 4 [.li 7 (l.map tmA), .lit (.int .i64 kind), .lit (.int .i64 day)] [] (.lit (.bool true)) [] := by
  have hs := sgLa_ok
  have hT := Tr_tms l
  have hL : (l.map tmA).length = l.length := List.length_map _
  have hu := un_tms l
  have hi2 := un_ia (usI l kind day l.length)
  refine FnS.of Try.func4 rfl (N := 37) rfl (by simp) (by simp) fun X hX => ?_
  simp only [tmArgs, lentH, Nat.reduceAdd]
  refine WA.regionK ty_ok hs fun K hK => ?_
  simp only [go_sem, Nat.reduceAdd, Nat.reduceLT, Nat.reduceLeDiff, Nat.reduceEqDiff, Nat.reduceSub, Nat.reduceMul, Nat.reduceBEq, Nat.reduceBNe, Nat.reducePow, Nat.reduceDiv, Int.reduceLE, Int.reduceLT, Int.reduceToNat, Int.reduceNeg, Int.reduceAdd, Int.reduceSub, Int.reduceEq, reduceIte, reduceCtorEq, UInt8.reduceOfNat, true_and]
  repeat refine And.intro (by first | omega | assumption | (simp; done) | (simp; omega) | (simp +contextual; done) | (simp_all; done) | (simp_all; omega)) ?_
  refine hK _ ?_
  clear hK K
  refine WA.seq ?_
  refine WA.regionK ty_ok hs fun K hK => ?_
  simp only [go_sem, Nat.reduceAdd, Nat.reduceLT, Nat.reduceLeDiff, Nat.reduceEqDiff, Nat.reduceSub, Nat.reduceMul, Nat.reduceBEq, Nat.reduceBNe, Nat.reducePow, Nat.reduceDiv, Int.reduceLE, Int.reduceLT, Int.reduceToNat, Int.reduceNeg, Int.reduceAdd, Int.reduceSub, Int.reduceEq, reduceIte, reduceCtorEq, UInt8.reduceOfNat, true_and]
  repeat refine And.intro (by first | omega | assumption | (simp; done) | (simp; omega) | (simp +contextual; done) | (simp_all; done) | (simp_all; omega)) ?_
  refine hK _ ?_
  clear hK K
  refine WA.block ?_
  refine WA.loopW hX (fun k => k) ((fun (i : Nat) => ⟨[(0, .li 7 (l.map tmA)), (1, .lit (.int .i64 kind)), (2, .lit (.int .i64 day)), (7, .lit (.int .i64 (i : Nat)))], [], 3000, 37⟩ : _ → St)) (fun i => l.length - i) (fun i => i ≤ l.length) (i0 := 0) (by omega) (by simp only [go_sem, Int.natCast_add, Nat.reduceAdd, Nat.reduceLT, Nat.reduceLeDiff, Nat.reduceEqDiff, Nat.reduceSub, Nat.reduceMul, Nat.reduceBEq, Nat.reduceBNe, Nat.reducePow, Nat.reduceDiv, Int.reduceLE, Int.reduceLT, Int.reduceToNat, Int.reduceNeg, Int.reduceAdd, Int.reduceSub, Int.reduceEq, reduceIte, reduceCtorEq, UInt8.reduceOfNat, hT] <;> (try and_intros) <;> (try omega)) fun i hi => ?_
  refine WA.seq ?_
  refine WA.regionK ty_ok hs fun K hK => ?_
  simp only [go_sem, Nat.reduceAdd, Nat.reduceLT, Nat.reduceLeDiff, Nat.reduceEqDiff, Nat.reduceSub, Nat.reduceMul, Nat.reduceBEq, Nat.reduceBNe, Nat.reducePow, Nat.reduceDiv, Int.reduceLE, Int.reduceLT, Int.reduceToNat, Int.reduceNeg, Int.reduceAdd, Int.reduceSub, Int.reduceEq, reduceIte, reduceCtorEq, UInt8.reduceOfNat, hL]
  repeat refine And.intro (by first | omega | assumption | (simp; done) | (simp; omega) | (simp +contextual; done) | (simp_all; done) | (simp_all; omega)) ?_
  refine hK _ ?_
  clear hK K
  refine WA.cond rfl (fun h => ?_) (fun h => ?_)
  ·
    with_reducible refine WA.skipN ?_
    repeat first | with_reducible refine WN.t ?_ | with_reducible refine WN.b ?_
    have h6 : i < l.length := by have := of_decide_eq_true h; omega
    clear h
    have g := tm_at h6
    refine WA.seq ?_
    refine WA.block ?_
    refine WA.drawnK mixed_ ty_ok hs (tbl := [[], [], [0, 1], [0, 1, 2], [0, 1, 2, 3], [], [], [5, 6], [5, 6, 7], [0, 1, 2, 3, 4, 5, 6, 7, 8], [0, 1, 2, 3, 4, 5, 6, 7, 8, 9]]) (nb := [3, 4, 8, 9]) (by kernel_rfl) fun K hK => ?_
    simp only [go_sem, Nat.reduceAdd, Nat.reduceLT, Nat.reduceLeDiff, Nat.reduceEqDiff, Nat.reduceSub, Nat.reduceMul, Nat.reduceBEq, Nat.reduceBNe, Nat.reducePow, Nat.reduceDiv, Int.reduceLE, Int.reduceLT, Int.reduceToNat, Int.reduceNeg, Int.reduceAdd, Int.reduceSub, Int.reduceEq, reduceIte, reduceCtorEq, UInt8.reduceOfNat, sgLa, tm_eta, g, hL, bne_self_eq_false]
    repeat refine And.intro (by first | omega | assumption | (simp; done) | (simp; omega) | (simp +contextual; done) | (simp_all; done) | (simp_all; omega)) ?_
    refine hK _ ?_
    clear hK K
    refine WA.cond rfl (fun h => ?_) (fun h => ?_)
    · cases h
    with_reducible refine WA.skipN ?_
    repeat first | with_reducible refine WN.t ?_ | with_reducible refine WN.b ?_
    refine WA.regionE ty_ok hs fun K hK => ?_
    simp only [go_sem, Nat.reduceAdd, Nat.reduceLT, Nat.reduceLeDiff, Nat.reduceEqDiff, Nat.reduceSub, Nat.reduceMul, Nat.reduceBEq, Nat.reduceBNe, Nat.reducePow, Nat.reduceDiv, Int.reduceLE, Int.reduceLT, Int.reduceToNat, Int.reduceNeg, Int.reduceAdd, Int.reduceSub, Int.reduceEq, reduceIte, reduceCtorEq, UInt8.reduceOfNat, true_and]
    repeat refine And.intro (by first | omega | assumption | (simp; done) | (simp; omega) | (simp +contextual; done) | (simp_all; done) | (simp_all; omega)) ?_
    refine hK _ (roundE hX (fun k => k) (j := i + 1) (by omega) (by first | omega | (dsimp only; omega) | (simp; omega)) (by simp only [go_sem, Int.natCast_add, Nat.reduceAdd, Nat.reduceLT, Nat.reduceLeDiff, Nat.reduceEqDiff, Nat.reduceSub, Nat.reduceMul, Nat.reduceBEq, Nat.reduceBNe, Nat.reducePow, Nat.reduceDiv, Int.reduceLE, Int.reduceLT, Int.reduceToNat, Int.reduceNeg, Int.reduceAdd, Int.reduceSub, Int.reduceEq, reduceIte, reduceCtorEq, UInt8.reduceOfNat, hT] <;> (try and_intros) <;> (try omega)))
  ·
    with_reducible refine WA.exitX ?_
    repeat first | with_reducible refine WX.b ?_ | with_reducible refine WX.t ?_ | (with_reducible refine WX.n ?hne ?_; case hne => rfl)
    refine WA.regionK ty_ok hs fun K hK => ?_
    simp only [go_sem, Nat.reduceAdd, Nat.reduceLT, Nat.reduceLeDiff, Nat.reduceEqDiff, Nat.reduceSub, Nat.reduceMul, Nat.reduceBEq, Nat.reduceBNe, Nat.reducePow, Nat.reduceDiv, Int.reduceLE, Int.reduceLT, Int.reduceToNat, Int.reduceNeg, Int.reduceAdd, Int.reduceSub, Int.reduceEq, reduceIte, reduceCtorEq, UInt8.reduceOfNat, sgLa, hu, hi2, hT, hl, Tr_ia]
    repeat refine And.intro (by first | omega | assumption | (simp; done) | (simp; omega) | (simp +contextual; done) | (simp_all; done) | (simp_all; omega)) ?_
    refine hK _ ?_
    clear hK K
    refine WA.retE ty_ok (xs := [.lit (.bool true)]) (ls' := []) (rv := [.tmp 6]) rfl hX (by decide) (fun _ => rfl) (fun _ _ h => h) ?_
    simp only [go_sem, Nat.reduceAdd, Nat.reduceLT, Nat.reduceLeDiff, Nat.reduceEqDiff, Nat.reduceSub, Nat.reduceMul, Nat.reduceBEq, Nat.reduceBNe, Nat.reducePow, Nat.reduceDiv, Int.reduceLE, Int.reduceLT, Int.reduceToNat, Int.reduceNeg, Int.reduceAdd, Int.reduceSub, Int.reduceEq, reduceIte, reduceCtorEq, UInt8.reduceOfNat, sbT]
    all_goals (first | done | exact Nat.le_refl _ | (simp; done) | (and_intros <;> first | omega | exact Nat.le_refl _ | (simp; done) | (simp; omega)))
def sgLb : Sg := fun f args ls =>
  match f, args, ls with
  | 7, [.li 7 xs], [] => some (.tup [.li 3 (ndsA (encN (xs.map unT))), .lit (.int .i64 (encE (xs.map unT)))], [], xs = (xs.map unT).map tmA)
  | 8, [.li 7 xs], [] => some (.tup [.li 3 (ndsA (encN (xs.map unT))), .lit (.int .i64 (encE (xs.map unT)))], [], xs = (xs.map unT).map tmA)
  | 12, [.li 3 xs], [] => some (.tup [.li 7 ((decV (unNs xs)).map tmA), .lit (.int .i64 (decE (unNs xs)))], [], xs = ndsA (unNs xs) ∧ okNs (unNs xs))
  | 13, [.li 3 xs], [] => some (.tup [.li 7 ((decV (unNs xs)).map tmA), .lit (.int .i64 (decE (unNs xs)))], [], xs = ndsA (unNs xs) ∧ okNs (unNs xs))
  | _, _, _ => none
theorem sgLb_ok : SgOK Try.prog sgLb := by
  intro f args ls r ls' vc h hvc
  unfold sgLb at h
  split at h <;> first | (simp only [Option.some.injEq, Prod.mk.injEq] at h; obtain ⟨rfl, rfl, rfl⟩ := h) | cases h
  · rename_i xs
    refine ⟨(fnOK Try.func7 (by decide) rfl), ?_⟩
    have := encode_s (xs.map unT)
    rw [← hvc] at this
    exact this
  · rename_i xs
    refine ⟨(fnOK Try.func8 (by decide) rfl), ?_⟩
    have := rencode_s (xs.map unT)
    rw [← hvc] at this
    exact this
  · rename_i xs
    refine ⟨(fnOK Try.func12 (by decide) rfl), ?_⟩
    have := decode_s (unNs xs) hvc.2
    rw [← hvc.1] at this
    exact this
  · rename_i xs
    refine ⟨(fnOK Try.func13 (by decide) rfl), ?_⟩
    have := rdecode_s (unNs xs) hvc.2
    rw [← hvc.1] at this
    exact this
def sgLc : Sg := fun f args ls =>
  match f, args, ls with
  | 9, [], [] => some (.lit (.bool true), [], True)
  | 10, [.li 3 xs, .li 3 ys], [] => some (.lit (.bool true), [], ys = xs ∧ xs = ndsA (unNs xs))
  | 11, [.li 3 xs, .lit (.int .i64 k)], [] => some (.lit (.bool (smaL 6 (unNs xs))), [], xs = ndsA (unNs xs) ∧ k = 6)
  | 14, [.li 7 xs, .li 7 ys], [] => some (.lit (.bool true), [], ys = xs ∧ xs = (xs.map unT).map tmA)
  | _, _, _ => none
theorem sgLc_ok : SgOK Try.prog sgLc := by
  intro f args ls r ls' vc h hvc
  unfold sgLc at h
  split at h <;> first | (simp only [Option.some.injEq, Prod.mk.injEq] at h; obtain ⟨rfl, rfl, rfl⟩ := h) | cases h
  · exact ⟨(fnOK Try.func9 (by decide) rfl), awake_s⟩
  · rename_i xs ys
    refine ⟨(fnOK Try.func10 (by decide) rfl), ?_⟩
    have := nsame_s _ (unNs xs) (Nat.lt_succ_self _)
    rw [← hvc.2] at this
    rw [hvc.1]
    exact this
  · rename_i xs k
    refine ⟨(fnOK Try.func11 (by decide) rfl), ?_⟩
    have := small_s 6 (unNs xs) (by omega)
    rw [← hvc.1] at this
    rw [hvc.2]
    exact this
  · rename_i xs ys
    refine ⟨(fnOK Try.func14 (by decide) rfl), ?_⟩
    have := tsame_s (xs.map unT)
    rw [← hvc.2] at this
    rw [hvc.1]
    exact this
theorem bexact_s (l : List Tm) (n : List Nd) (hn : okNs n) : FnS Try.prog 3 [.li 7 (l.map tmA), .li 3 (ndsA n)] [] (.lit (.bool true)) [] := by
  have hs := sgLb_ok
  have hT := Tr_tms l
  have hu := un_tms l
  have hn2 := un_nds n
  have hu2 := un_tms (decV n)
  have hu3 := un_nds (encN l)
  refine FnS.of Try.func3 rfl (N := 57) rfl (by simp) (by simp) fun X hX => ?_
  simp only [tmArgs, lentH, Nat.reduceAdd]
  refine WA.regionK ty_ok hs fun K hK => ?_
  simp only [go_sem, Nat.reduceAdd, Nat.reduceLT, Nat.reduceLeDiff, Nat.reduceEqDiff, Nat.reduceSub, Nat.reduceMul, Nat.reduceBEq, Nat.reduceBNe, Nat.reducePow, Nat.reduceDiv, Int.reduceLE, Int.reduceLT, Int.reduceToNat, Int.reduceNeg, Int.reduceAdd, Int.reduceSub, Int.reduceEq, reduceIte, reduceCtorEq, UInt8.reduceOfNat, true_and]
  repeat refine And.intro (by first | omega | assumption | (simp; done) | (simp; omega) | (simp +contextual; done) | (simp_all; done) | (simp_all; omega)) ?_
  refine hK _ ?_
  clear hK K
  refine WA.regionK ty_ok hs fun K hK => ?_
  simp only [go_sem, Nat.reduceAdd, Nat.reduceLT, Nat.reduceLeDiff, Nat.reduceEqDiff, Nat.reduceSub, Nat.reduceMul, Nat.reduceBEq, Nat.reduceBNe, Nat.reducePow, Nat.reduceDiv, Int.reduceLE, Int.reduceLT, Int.reduceToNat, Int.reduceNeg, Int.reduceAdd, Int.reduceSub, Int.reduceEq, reduceIte, reduceCtorEq, UInt8.reduceOfNat, sgLb, hu, hT, Tr_nds]
  repeat refine And.intro (by first | omega | assumption | (simp; done) | (simp; omega) | (simp +contextual; done) | (simp_all; done) | (simp_all; omega)) ?_
  refine hK _ ?_
  clear hK K
  refine WA.regionK ty_ok hs fun K hK => ?_
  simp only [go_sem, Nat.reduceAdd, Nat.reduceLT, Nat.reduceLeDiff, Nat.reduceEqDiff, Nat.reduceSub, Nat.reduceMul, Nat.reduceBEq, Nat.reduceBNe, Nat.reducePow, Nat.reduceDiv, Int.reduceLE, Int.reduceLT, Int.reduceToNat, Int.reduceNeg, Int.reduceAdd, Int.reduceSub, Int.reduceEq, reduceIte, reduceCtorEq, UInt8.reduceOfNat, sgLb, hu, hT, Tr_nds]
  repeat refine And.intro (by first | omega | assumption | (simp; done) | (simp; omega) | (simp +contextual; done) | (simp_all; done) | (simp_all; omega)) ?_
  refine hK _ ?_
  clear hK K
  refine WA.seq ?_
  have hs := sgLc_ok
  refine WA.regionK ty_ok hs fun K hK => ?_
  simp only [go_sem, Nat.reduceAdd, Nat.reduceLT, Nat.reduceLeDiff, Nat.reduceEqDiff, Nat.reduceSub, Nat.reduceMul, Nat.reduceBEq, Nat.reduceBNe, Nat.reducePow, Nat.reduceDiv, Int.reduceLE, Int.reduceLT, Int.reduceToNat, Int.reduceNeg, Int.reduceAdd, Int.reduceSub, Int.reduceEq, reduceIte, reduceCtorEq, UInt8.reduceOfNat, sgLc, bne_self_eq_false, hu3, Tr_nds]
  repeat refine And.intro (by first | omega | assumption | (simp; done) | (simp; omega) | (simp +contextual; done) | (simp_all; done) | (simp_all; omega)) ?_
  refine hK _ ?_
  clear hK K
  refine WA.cond rfl (fun h => ?_) (fun h => ?_)
  · simp at h
  with_reducible refine WA.skipN ?_
  repeat first | with_reducible refine WN.t ?_ | with_reducible refine WN.b ?_
  refine WA.seq ?_
  refine WA.regionK ty_ok hs fun K hK => ?_
  simp only [go_sem, Nat.reduceAdd, Nat.reduceLT, Nat.reduceLeDiff, Nat.reduceEqDiff, Nat.reduceSub, Nat.reduceMul, Nat.reduceBEq, Nat.reduceBNe, Nat.reducePow, Nat.reduceDiv, Int.reduceLE, Int.reduceLT, Int.reduceToNat, Int.reduceNeg, Int.reduceAdd, Int.reduceSub, Int.reduceEq, reduceIte, reduceCtorEq, UInt8.reduceOfNat, sgLc, hn2, Tr_nds]
  repeat refine And.intro (by first | omega | assumption | (simp; done) | (simp; omega) | (simp +contextual; done) | (simp_all; done) | (simp_all; omega)) ?_
  refine hK _ ?_
  clear hK K
  refine WA.cond rfl (fun h => ?_) (fun h => ?_)
  ·
    refine WA.regionK ty_ok hs fun K hK => ?_
    simp only [go_sem, Nat.reduceAdd, Nat.reduceLT, Nat.reduceLeDiff, Nat.reduceEqDiff, Nat.reduceSub, Nat.reduceMul, Nat.reduceBEq, Nat.reduceBNe, Nat.reducePow, Nat.reduceDiv, Int.reduceLE, Int.reduceLT, Int.reduceToNat, Int.reduceNeg, Int.reduceAdd, Int.reduceSub, Int.reduceEq, reduceIte, reduceCtorEq, UInt8.reduceOfNat, true_and]
    repeat refine And.intro (by first | omega | assumption | (simp; done) | (simp; omega) | (simp +contextual; done) | (simp_all; done) | (simp_all; omega)) ?_
    refine hK _ ?_
    clear hK K
    refine WA.retE ty_ok (xs := [.lit (.bool true)]) (ls' := []) (rv := [.tmp 4]) rfl hX (by decide) (fun _ => rfl) (fun _ _ h => h) ?_
    simp only [go_sem, Nat.reduceAdd, Nat.reduceLT, Nat.reduceLeDiff, Nat.reduceEqDiff, Nat.reduceSub, Nat.reduceMul, Nat.reduceBEq, Nat.reduceBNe, Nat.reducePow, Nat.reduceDiv, Int.reduceLE, Int.reduceLT, Int.reduceToNat, Int.reduceNeg, Int.reduceAdd, Int.reduceSub, Int.reduceEq, reduceIte, reduceCtorEq, UInt8.reduceOfNat, sbT]
    all_goals (first | done | exact Nat.le_refl _ | (simp; done) | (and_intros <;> first | omega | exact Nat.le_refl _ | (simp; done) | (simp; omega)))
  ·
    with_reducible refine WA.skipN ?_
    repeat first | with_reducible refine WN.t ?_ | with_reducible refine WN.b ?_
    have hs := sgLb_ok
    refine WA.regionK ty_ok hs fun K hK => ?_
    simp only [go_sem, Nat.reduceAdd, Nat.reduceLT, Nat.reduceLeDiff, Nat.reduceEqDiff, Nat.reduceSub, Nat.reduceMul, Nat.reduceBEq, Nat.reduceBNe, Nat.reducePow, Nat.reduceDiv, Int.reduceLE, Int.reduceLT, Int.reduceToNat, Int.reduceNeg, Int.reduceAdd, Int.reduceSub, Int.reduceEq, reduceIte, reduceCtorEq, UInt8.reduceOfNat, sgLb, hn2, hn, Tr_nds, Tr_tms]
    repeat refine And.intro (by first | omega | assumption | (simp; done) | (simp; omega) | (simp +contextual; done) | (simp_all; done) | (simp_all; omega)) ?_
    refine hK _ ?_
    clear hK K
    refine WA.regionK ty_ok hs fun K hK => ?_
    simp only [go_sem, Nat.reduceAdd, Nat.reduceLT, Nat.reduceLeDiff, Nat.reduceEqDiff, Nat.reduceSub, Nat.reduceMul, Nat.reduceBEq, Nat.reduceBNe, Nat.reducePow, Nat.reduceDiv, Int.reduceLE, Int.reduceLT, Int.reduceToNat, Int.reduceNeg, Int.reduceAdd, Int.reduceSub, Int.reduceEq, reduceIte, reduceCtorEq, UInt8.reduceOfNat, sgLb, hn2, hn, Tr_nds, Tr_tms]
    repeat refine And.intro (by first | omega | assumption | (simp; done) | (simp; omega) | (simp +contextual; done) | (simp_all; done) | (simp_all; omega)) ?_
    refine hK _ ?_
    clear hK K
    have hs := sgLc_ok
    refine WA.regionK ty_ok hs fun K hK => ?_
    simp only [go_sem, Nat.reduceAdd, Nat.reduceLT, Nat.reduceLeDiff, Nat.reduceEqDiff, Nat.reduceSub, Nat.reduceMul, Nat.reduceBEq, Nat.reduceBNe, Nat.reducePow, Nat.reduceDiv, Int.reduceLE, Int.reduceLT, Int.reduceToNat, Int.reduceNeg, Int.reduceAdd, Int.reduceSub, Int.reduceEq, reduceIte, reduceCtorEq, UInt8.reduceOfNat, sgLc, hu2, Tr_tms, beq_self_eq_true]
    repeat refine And.intro (by first | omega | assumption | (simp; done) | (simp; omega) | (simp +contextual; done) | (simp_all; done) | (simp_all; omega)) ?_
    refine hK _ ?_
    clear hK K
    refine WA.retE ty_ok (xs := [.lit (.bool true)]) (ls' := []) (rv := [.tmp 4]) rfl hX (by decide) (fun _ => rfl) (fun _ _ h => h) ?_
    simp only [go_sem, Nat.reduceAdd, Nat.reduceLT, Nat.reduceLeDiff, Nat.reduceEqDiff, Nat.reduceSub, Nat.reduceMul, Nat.reduceBEq, Nat.reduceBNe, Nat.reducePow, Nat.reduceDiv, Int.reduceLE, Int.reduceLT, Int.reduceToNat, Int.reduceNeg, Int.reduceAdd, Int.reduceSub, Int.reduceEq, reduceIte, reduceCtorEq, UInt8.reduceOfNat, sbT]
    all_goals (first | done | exact Nat.le_refl _ | (simp; done) | (and_intros <;> first | omega | exact Nat.le_refl _ | (simp; done) | (simp; omega)))
theorem bexact2_s (l : List Tm) (n : List Nd) (_ : l.length ≤ 1954687338211) (hn : okNs n) : FnS Try.prog 3 [.li 7 (l.map tmA), .li 3 (ndsA n)] [] (.lit (.bool true)) [] := bexact_s l n hn
theorem bvalid2_s (l : List Tm) (kind day : Int) (hl : l.length ≤ 1954687338211) (_ : -9223372036854775808 ≤ kind ∧ kind ≤ 9223372036854775807) (_ : -9223372036854775808 ≤ day ∧ day ≤ 9223372036854775807) : FnS Try.prog 4 [.li 7 (l.map tmA), .lit (.int .i64 kind), .lit (.int .i64 day)] [] (.lit (.bool true)) [] := bvalid_s l kind day hl
end Go.Proofs.Ytloihfflblgioaa
