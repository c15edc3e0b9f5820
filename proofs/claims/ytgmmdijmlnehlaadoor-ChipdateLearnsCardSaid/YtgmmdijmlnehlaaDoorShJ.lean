import Derived.Test.YtgmmdijmlnehlaaDoorShI
namespace Go.Proofs.YtgmmdijmlnehlaaDoor
open Go.RowKit Go.TravelBase Go.TravelAbs
set_option linter.unusedVariables false
set_option linter.unusedSimpArgs false



















/-! ### The laws on reading, and on learning -/
def sgLd : Sg := fun f args ls =>
  match f, args, ls with
  | 9, [], [] => some (.lit (.bool true), [], True)
  | 15, [.by_ d], [] => some (.tup [stoA (dcV d), .lit (.int .i64 (dcE d))], [], d.length ≤ 1000)
  | 16, [.by_ d], [] => some (.tup [stoA (dcV d), .lit (.int .i64 (dcE d))], [], d.length ≤ 1000)
  | 13, [.agg [.li es xs, .lit (.int .i64 now)]], [] => some (.tup [.by_ (encS ⟨xs.map unT, now⟩), .lit (.int .i64 (validE ⟨xs.map unT, now⟩))], [], es = 5 ∧ xs = (xs.map unT).map ptA)
  | 17, [.agg [.li es xs, .lit (.int .i64 n)], .agg [.li es' ys, .lit (.int .i64 m)]], [] => some (.lit (.bool (sameS ⟨xs.map unT, n⟩ ⟨ys.map unT, m⟩)), [], (es = 5 ∧ xs = (xs.map unT).map ptA) ∧ (es' = 5 ∧ ys = (ys.map unT).map ptA) ∧ (xs.map unT).length ≤ 1000)
  | 18, [.li 1 xs], [] => some (.lit (.bool (decide ((xs.length : Int) ≤ 80))), [], True)
  | 19, [.li 1 xs], [] => some (stoA (trS (.li 1 xs) 0), [], xs = (xs.map unI).map iA ∧ xs.length ≤ 400 ∧ ∀ y ∈ xs.map unI, -9223372036854775808 ≤ y ∧ y ≤ 9223372036854775807)
  | _, _, _ => none
theorem sgLd_ok : SgOK Tryd.prog sgLd := by
  intro f args ls r ls' vc h hvc
  unfold sgLd at h
  split at h <;> first | (simp only [Option.some.injEq, Prod.mk.injEq] at h; obtain ⟨rfl, rfl, rfl⟩ := h) | cases h
  · exact ⟨(fnOK Tryd.func9 (by decide) rfl), awake_s⟩
  · exact ⟨(fnOK Tryd.func15 (by decide) rfl), decode_s _ hvc⟩
  · exact ⟨(fnOK Tryd.func16 (by decide) rfl), rdecode_s _ hvc⟩
  · obtain ⟨rfl, h2⟩ := hvc
    refine ⟨(fnOK Tryd.func13 (by decide) rfl), ?_⟩
    rename_i xs now
    have := encode_s ⟨xs.map unT, now⟩
    unfold stoA at this
    rw [← h2] at this
    exact this
  · obtain ⟨⟨rfl, h2⟩, ⟨rfl, h3⟩, h4⟩ := hvc
    refine ⟨(fnOK Tryd.func17 (by decide) rfl), ?_⟩
    rename_i xs n ys m
    have := rsameS_s ⟨xs.map unT, n⟩ ⟨ys.map unT, m⟩ h4
    unfold stoA at this
    rw [← h2, ← h3] at this
    exact this
  · exact ⟨(fnOK Tryd.func18 (by decide) rfl), mlight_s _⟩
  · obtain ⟨h2, h3, h4⟩ := hvc
    refine ⟨(fnOK Tryd.func19 (by decide) rfl), ?_⟩
    rename_i xs
    have := trust_s (xs.map unI) (by simpa using h3) h4
    rw [← h2] at this
    exact this
theorem dcV_len (d : List UInt8) : (dcV d).pts.length ≤ 1000 := by
  by_cases h : validE (cand d) = 0 ∧ encS (cand d) = d
  · have e : dcV d = cand d := if_pos h
    rw [e]
    have := (valid_ok h.1).1.2
    omega
  · have e : dcV d = ⟨[], 0⟩ := if_neg h
    rw [e]
    exact Nat.zero_le _
theorem lawDecodes_s (d : List UInt8) (hd : d.length ≤ 9223372036854775807) : FnS Tryd.prog 5 [.by_ d] [] (.lit (.bool true)) [] := by
  have hs := sgLd_ok
  refine FnS.of Tryd.func5 rfl (N := 32) rfl (by simp) (by simp) fun X hX => ?_
  simp only [tmArgs, lentH, Nat.reduceAdd]
  refine WA.regionK ty_ok hs fun K hK => ?_
  simp only [go_sem, Nat.reduceAdd, Nat.reduceLT, Nat.reduceLeDiff, Nat.reduceEqDiff, Nat.reduceSub, Nat.reduceMul, Nat.reduceBEq, Nat.reduceBNe, Nat.reducePow, Nat.reduceDiv, Int.reduceLE, Int.reduceLT, Int.reduceToNat, Int.reduceNeg, Int.reduceAdd, Int.reduceSub, Int.reduceEq, reduceIte, reduceCtorEq, UInt8.reduceOfNat, true_and]
  repeat refine And.intro (by first | omega | assumption | (simp; done) | (simp; omega) | (simp +contextual; done) | (simp_all; done) | (simp_all; omega)) ?_
  refine hK _ ?_
  clear hK K
  refine WA.seq ?_
  refine WA.regionK ty_ok hs fun K hK => ?_
  simp only [go_sem, Nat.reduceAdd, Nat.reduceLT, Nat.reduceLeDiff, Nat.reduceEqDiff, Nat.reduceSub, Nat.reduceMul, Nat.reduceBEq, Nat.reduceBNe, Nat.reducePow, Nat.reduceDiv, Int.reduceLE, Int.reduceLT, Int.reduceToNat, Int.reduceNeg, Int.reduceAdd, Int.reduceSub, Int.reduceEq, reduceIte, reduceCtorEq, UInt8.reduceOfNat, true_and]
  repeat refine And.intro (by first | omega | assumption | (simp; done) | (simp; omega) | (simp +contextual; done) | (simp_all; done) | (simp_all; omega)) ?_
  refine hK _ ?_
  clear hK K
  refine WA.cond rfl (fun h => ?_) (fun h => ?_)
  ·
    refine WA.regionK ty_ok hs fun K hK => ?_
    simp only [go_sem, Nat.reduceAdd, Nat.reduceLT, Nat.reduceLeDiff, Nat.reduceEqDiff, Nat.reduceSub, Nat.reduceMul, Nat.reduceBEq, Nat.reduceBNe, Nat.reducePow, Nat.reduceDiv, Int.reduceLE, Int.reduceLT, Int.reduceToNat, Int.reduceNeg, Int.reduceAdd, Int.reduceSub, Int.reduceEq, reduceIte, reduceCtorEq, UInt8.reduceOfNat, sgLd]
    repeat refine And.intro (by first | omega | assumption | (simp; done) | (simp; omega) | (simp +contextual; done) | (simp_all; done) | (simp_all; omega)) ?_
    refine hK _ ?_
    clear hK K
    refine WA.retE ty_ok (xs := [.lit (.bool true)]) (ls' := []) (rv := [.tmp 2]) rfl hX (by decide) (fun _ => rfl) (fun _ _ h => h) ?_
    simp only [go_sem, Nat.reduceAdd, Nat.reduceLT, Nat.reduceLeDiff, Nat.reduceEqDiff, Nat.reduceSub, Nat.reduceMul, Nat.reduceBEq, Nat.reduceBNe, Nat.reducePow, Nat.reduceDiv, Int.reduceLE, Int.reduceLT, Int.reduceToNat, Int.reduceNeg, Int.reduceAdd, Int.reduceSub, Int.reduceEq, reduceIte, reduceCtorEq, UInt8.reduceOfNat, sbT]
    all_goals (first | done | exact Nat.le_refl _ | (simp; done) | (and_intros <;> first | omega | exact Nat.le_refl _ | (simp; done) | (simp; omega)))
  ·
    have h : d.length ≤ 1000 := by first | (simp only [Bool.and_eq_true, Bool.or_eq_true, Bool.not_eq_true', decide_eq_true_eq, decide_eq_false_iff_not, beq_iff_eq, bne_iff_ne, ne_eq, Bool.not_eq_eq_eq_not, Bool.not_true, Bool.not_false, beq_eq_false_iff_ne, bne_eq_false_iff_eq, Bool.and_eq_false_imp, Bool.or_eq_false_iff, Bool.cond_false_right, Bool.cond_true_left, Bool.cond_false_left, Bool.cond_true_right, gt_iff_lt, ge_iff_le, true_and] at h; first | exact h | omega) | omega | simpa using h
    have hl := dcV_len d
    have hr := sameS_refl (dcV d)
    obtain ⟨l, now, e⟩ : ∃ l now, dcV d = ⟨l, now⟩ := ⟨_, _, rfl⟩
    have hT := Tr_pts l
    have hu := un_pts l
    have e2 : stoA ⟨l, now⟩ = .agg [.li 5 (l.map ptA), .lit (.int .i64 now)] := rfl
    rw [e] at hl hr
    simp only at hl
    with_reducible refine WA.skipN ?_
    repeat first | with_reducible refine WN.t ?_ | with_reducible refine WN.b ?_
    refine WA.regionK ty_ok hs fun K hK => ?_
    simp only [go_sem, Nat.reduceAdd, Nat.reduceLT, Nat.reduceLeDiff, Nat.reduceEqDiff, Nat.reduceSub, Nat.reduceMul, Nat.reduceBEq, Nat.reduceBNe, Nat.reducePow, Nat.reduceDiv, Int.reduceLE, Int.reduceLT, Int.reduceToNat, Int.reduceNeg, Int.reduceAdd, Int.reduceSub, Int.reduceEq, reduceIte, reduceCtorEq, UInt8.reduceOfNat, sgLd, h, e, e2, hT]
    repeat refine And.intro (by first | omega | assumption | (simp; done) | (simp; omega) | (simp +contextual; done) | (simp_all; done) | (simp_all; omega)) ?_
    refine hK _ ?_
    clear hK K
    refine WA.regionK ty_ok hs fun K hK => ?_
    simp only [go_sem, Nat.reduceAdd, Nat.reduceLT, Nat.reduceLeDiff, Nat.reduceEqDiff, Nat.reduceSub, Nat.reduceMul, Nat.reduceBEq, Nat.reduceBNe, Nat.reducePow, Nat.reduceDiv, Int.reduceLE, Int.reduceLT, Int.reduceToNat, Int.reduceNeg, Int.reduceAdd, Int.reduceSub, Int.reduceEq, reduceIte, reduceCtorEq, UInt8.reduceOfNat, sgLd, h, e, e2, hT]
    repeat refine And.intro (by first | omega | assumption | (simp; done) | (simp; omega) | (simp +contextual; done) | (simp_all; done) | (simp_all; omega)) ?_
    refine hK _ ?_
    clear hK K
    refine WA.regionK ty_ok hs fun K hK => ?_
    simp only [go_sem, Nat.reduceAdd, Nat.reduceLT, Nat.reduceLeDiff, Nat.reduceEqDiff, Nat.reduceSub, Nat.reduceMul, Nat.reduceBEq, Nat.reduceBNe, Nat.reducePow, Nat.reduceDiv, Int.reduceLE, Int.reduceLT, Int.reduceToNat, Int.reduceNeg, Int.reduceAdd, Int.reduceSub, Int.reduceEq, reduceIte, reduceCtorEq, UInt8.reduceOfNat, sgLd, h, hT, hu, hl, hr]
    repeat refine And.intro (by first | omega | assumption | (simp; done) | (simp; omega) | (simp +contextual; done) | (simp_all; done) | (simp_all; omega)) ?_
    refine hK _ ?_
    clear hK K
    refine WA.retE ty_ok (xs := [.lit (.bool true)]) (ls' := []) (rv := [.tmp 2]) rfl hX (by decide) (fun _ => rfl) (fun _ _ h => h) ?_
    simp only [go_sem, Nat.reduceAdd, Nat.reduceLT, Nat.reduceLeDiff, Nat.reduceEqDiff, Nat.reduceSub, Nat.reduceMul, Nat.reduceBEq, Nat.reduceBNe, Nat.reducePow, Nat.reduceDiv, Int.reduceLE, Int.reduceLT, Int.reduceToNat, Int.reduceNeg, Int.reduceAdd, Int.reduceSub, Int.reduceEq, reduceIte, reduceCtorEq, UInt8.reduceOfNat, sbT]
    all_goals (first | done | exact Nat.le_refl _ | (simp; done) | (and_intros <;> first | omega | exact Nat.le_refl _ | (simp; done) | (simp; omega)))
def sgLl : Sg := fun f args ls =>
  match f, args, ls with
  | 9, [], [] => some (.lit (.bool true), [], True)
  | 10, [.agg [.li es xs, .lit (.int .i64 now)]], [] => some (.lit (.bool (decide ((xs.map unT).length ≤ 10))), [], es = 5 ∧ xs = (xs.map unT).map ptA)
  | 20, [.agg [.li es xs, .lit (.int .i64 now)], .agg [.lit (.string h'), .lit (.int .i64 k'), .lit (.int .i64 r'), .lit (.int .i64 rt'), .lit (.int .i64 fr'), .lit (.int .i64 t')], .agg [.lit (.string a), .lit (.string h), .lit (.int .i64 k), .lit (.int .i64 r), .lit (.int .i64 rt), .lit (.int .i64 fr), .lit (.int .i64 t), .lit (.int .i64 x), .lit (.int .i64 y)]], [] => some (stoA (learnS ⟨xs.map unT, now⟩ ⟨h'.data.toList, k', r', rt', fr', t'⟩ ⟨a.data.toList, h.data.toList, k, r, rt, fr, t, x, y⟩), [], es = 5 ∧ xs = (xs.map unT).map ptA ∧ (xs.map unT).length ≤ 10)
  | 21, [.agg [.li es xs, .lit (.int .i64 now)], .agg [.lit (.string h'), .lit (.int .i64 k'), .lit (.int .i64 r'), .lit (.int .i64 rt'), .lit (.int .i64 fr'), .lit (.int .i64 t')], .agg [.lit (.string a), .lit (.string h), .lit (.int .i64 k), .lit (.int .i64 r), .lit (.int .i64 rt), .lit (.int .i64 fr), .lit (.int .i64 t), .lit (.int .i64 x), .lit (.int .i64 y)]], [] => some (stoA (learnS ⟨xs.map unT, now⟩ ⟨h'.data.toList, k', r', rt', fr', t'⟩ ⟨a.data.toList, h.data.toList, k, r, rt, fr, t, x, y⟩), [], es = 5 ∧ xs = (xs.map unT).map ptA ∧ (xs.map unT).length ≤ 10 ∧ NmOK (xs.map unT) ∧ a.data.toList.length ≤ 9223372036854775807 ∧ h.data.toList.length ≤ 9223372036854775807)
  | 17, [.agg [.li es xs, .lit (.int .i64 n)], .agg [.li es' ys, .lit (.int .i64 m)]], [] => some (.lit (.bool (sameS ⟨xs.map unT, n⟩ ⟨ys.map unT, m⟩)), [], (es = 5 ∧ xs = (xs.map unT).map ptA) ∧ (es' = 5 ∧ ys = (ys.map unT).map ptA) ∧ (xs.map unT).length ≤ 1000)
  | _, _, _ => none
theorem sgLl_ok : SgOK Tryd.prog sgLl := by
  intro f args ls r ls' vc h hvc
  unfold sgLl at h
  split at h <;> first | (simp only [Option.some.injEq, Prod.mk.injEq] at h; obtain ⟨rfl, rfl, rfl⟩ := h) | cases h
  · exact ⟨(fnOK Tryd.func9 (by decide) rfl), awake_s⟩
  · obtain ⟨rfl, h2⟩ := hvc
    refine ⟨(fnOK Tryd.func10 (by decide) rfl), ?_⟩
    rename_i xs now
    have := lightT_s ⟨xs.map unT, now⟩
    unfold stoA at this
    rw [← h2] at this
    exact this
  · obtain ⟨rfl, h2, h3⟩ := hvc
    refine ⟨(fnOK Tryd.func20 (by decide) rfl), ?_⟩
    rename_i xs now h' k' r' rt' fr' t' a h k r rt fr t x y
    have := learn_s ⟨xs.map unT, now⟩ ⟨h'.data.toList, k', r', rt', fr', t'⟩ ⟨a.data.toList, h.data.toList, k, r, rt, fr, t, x, y⟩ (Nat.le_trans h3 (by decide))
    unfold stoA cnA ctA at this
    rw [← h2] at this
    exact this
  · obtain ⟨rfl, h2, h3, h4, h5, h6⟩ := hvc
    refine ⟨(fnOK Tryd.func21 (by decide) rfl), ?_⟩
    rename_i xs now h' k' r' rt' fr' t' a h k r rt fr t x y
    have := rlearn_s ⟨xs.map unT, now⟩ ⟨h'.data.toList, k', r', rt', fr', t'⟩ ⟨a.data.toList, h.data.toList, k, r, rt, fr, t, x, y⟩ (Nat.le_trans h3 (by decide)) h4 h5 h6
    unfold stoA cnA ctA at this
    rw [← h2] at this
    exact this
  · obtain ⟨⟨rfl, h2⟩, ⟨rfl, h3⟩, h4⟩ := hvc
    refine ⟨(fnOK Tryd.func17 (by decide) rfl), ?_⟩
    rename_i xs n ys m
    have := rsameS_s ⟨xs.map unT, n⟩ ⟨ys.map unT, m⟩ h4
    unfold stoA at this
    rw [← h2, ← h3] at this
    exact this
theorem learnS_len (t : Sto) (b : Cn) (c : Ct) : (learnS t b c).pts.length ≤ t.pts.length + 1 := by
  unfold learnS
  split
  · omega
  · split
    · exact Nat.le_succ _
    · have h1 : (learnL t b c).length ≤ t.pts.length + 1 := by
        unfold learnL keepL
        rw [List.length_append]
        have := List.length_filter_le (fun p => decide (nowI t b c ≤ p.til)) t.pts
        simp only [List.length_cons, List.length_nil]
        omega
      simp only
      split
      · rw [List.length_drop]
        omega
      · exact h1
theorem lawLearns_s (s : Sto) (b : Cn) (c : Ct) (hn : NmOK s.pts) (ha : c.iss.length ≤ 9223372036854775807) (hh : c.hold.length ≤ 9223372036854775807) : FnS Tryd.prog 7 [stoA s, cnA b, ctA c] [] (.lit (.bool true)) [] := by
  obtain ⟨l, now⟩ := s
  obtain ⟨a1, a2, a3, a4, a5, a6⟩ := b
  obtain ⟨c1, c2, c3, c4, c5, c6, c7, c8, c9⟩ := c
  have hs := sgLl_ok
  have hT := Tr_pts l
  have hu := un_pts l
  simp only at hn ha hh
  have hl := learnS_len ⟨l, now⟩ ⟨a1, a2, a3, a4, a5, a6⟩ ⟨c1, c2, c3, c4, c5, c6, c7, c8, c9⟩
  have hr := sameS_refl (learnS ⟨l, now⟩ ⟨a1, a2, a3, a4, a5, a6⟩ ⟨c1, c2, c3, c4, c5, c6, c7, c8, c9⟩)
  obtain ⟨k, nw, e⟩ : ∃ k nw, learnS ⟨l, now⟩ ⟨a1, a2, a3, a4, a5, a6⟩ ⟨c1, c2, c3, c4, c5, c6, c7, c8, c9⟩ = ⟨k, nw⟩ := ⟨_, _, rfl⟩
  rw [e] at hl hr
  simp only at hl
  have hT2 := Tr_pts k
  have hu2 := un_pts k
  have e2 : stoA ⟨k, nw⟩ = .agg [.li 5 (k.map ptA), .lit (.int .i64 nw)] := rfl
  unfold stoA cnA ctA
  refine FnS.of Tryd.func7 rfl (N := 24) rfl (by simp) (by simp) fun X hX => ?_
  simp only [tmArgs, lentH, Nat.reduceAdd]
  refine WA.regionK ty_ok hs fun K hK => ?_
  simp only [go_sem, Nat.reduceAdd, Nat.reduceLT, Nat.reduceLeDiff, Nat.reduceEqDiff, Nat.reduceSub, Nat.reduceMul, Nat.reduceBEq, Nat.reduceBNe, Nat.reducePow, Nat.reduceDiv, Int.reduceLE, Int.reduceLT, Int.reduceToNat, Int.reduceNeg, Int.reduceAdd, Int.reduceSub, Int.reduceEq, reduceIte, reduceCtorEq, UInt8.reduceOfNat, hT]
  repeat refine And.intro (by first | omega | assumption | (simp; done) | (simp; omega) | (simp +contextual; done) | (simp_all; done) | (simp_all; omega)) ?_
  refine hK _ ?_
  clear hK K
  rcases Decidable.em (l.length ≤ 10) with h10 | h10
  · have hl2 : k.length ≤ 1000 := by omega
    refine WA.drawnK mixed_ ty_ok hs (tbl := [[], [0], [0, 1], [0, 1, 2], [0, 1, 2, 3], [0, 1, 2, 3, 4], [0, 1, 2, 3, 4, 5], [0, 1, 2, 3, 4, 5], [0, 1, 2, 3, 4, 5], [0, 1, 2, 3, 4, 5, 6, 7, 8], [0, 1, 2, 3, 4, 5], [0, 1, 2, 3, 4, 5], [0, 1, 2, 3, 4, 5], [0, 1, 2, 3, 4, 5, 6, 7, 8, 9, 10, 11, 12], [0, 1, 2, 3, 4, 5, 6, 7, 8, 9, 10, 11, 12, 13], [0, 1, 2, 3, 4, 5, 6, 7, 8, 9, 10, 11, 12, 13, 14], [0, 1, 2, 3, 4, 5, 6, 7, 8, 9, 10, 11, 12, 13, 14, 15], [0, 1, 2, 3, 4, 5, 6, 7, 8, 9, 10, 11, 12, 13, 14, 15, 16]]) (nb := [0, 2, 3, 6, 7, 8, 9, 10, 11, 12, 13, 14]) (by kernel_rfl) fun K hK => ?_
    simp only [go_sem, Nat.reduceAdd, Nat.reduceLT, Nat.reduceLeDiff, Nat.reduceEqDiff, Nat.reduceSub, Nat.reduceMul, Nat.reduceBEq, Nat.reduceBNe, Nat.reducePow, Nat.reduceDiv, Int.reduceLE, Int.reduceLT, Int.reduceToNat, Int.reduceNeg, Int.reduceAdd, Int.reduceSub, Int.reduceEq, reduceIte, reduceCtorEq, UInt8.reduceOfNat, sgLl, hT, hu, hn, h10, strB_list, ha, hh, e, e2, hT2, hu2, hl2, hr]
    repeat refine And.intro (by first | omega | assumption | (simp; done) | (simp; omega) | (simp +contextual; done) | (simp_all; done) | (simp_all; omega)) ?_
    refine hK _ ?_
    clear hK K
    refine WA.retE ty_ok (xs := [.lit (.bool true)]) (ls' := []) (rv := [.tmp 6]) rfl hX (by decide) (fun _ => rfl) (fun _ _ h => h) ?_
    simp only [go_sem, Nat.reduceAdd, Nat.reduceLT, Nat.reduceLeDiff, Nat.reduceEqDiff, Nat.reduceSub, Nat.reduceMul, Nat.reduceBEq, Nat.reduceBNe, Nat.reducePow, Nat.reduceDiv, Int.reduceLE, Int.reduceLT, Int.reduceToNat, Int.reduceNeg, Int.reduceAdd, Int.reduceSub, Int.reduceEq, reduceIte, reduceCtorEq, UInt8.reduceOfNat, sbT]
    all_goals (first | done | exact Nat.le_refl _ | (simp; done) | (and_intros <;> first | omega | exact Nat.le_refl _ | (simp; done) | (simp; omega)))
  · refine WA.drawnK mixed_ ty_ok hs (tbl := [[], [0], [0, 1], [0, 1, 2], [0, 1, 2, 3], [0, 1, 2, 3, 4], [0, 1, 2, 3, 4, 5], [0, 1, 2, 3, 4, 5], [0, 1, 2, 3, 4, 5], [0, 1, 2, 3, 4, 5, 6, 7, 8], [0, 1, 2, 3, 4, 5], [0, 1, 2, 3, 4, 5], [0, 1, 2, 3, 4, 5], [0, 1, 2, 3, 4, 5, 6, 7, 8, 9, 10, 11, 12], [0, 1, 2, 3, 4, 5, 6, 7, 8, 9, 10, 11, 12, 13], [0, 1, 2, 3, 4, 5, 6, 7, 8, 9, 10, 11, 12, 13, 14], [0, 1, 2, 3, 4, 5, 6, 7, 8, 9, 10, 11, 12, 13, 14, 15], [0, 1, 2, 3, 4, 5, 6, 7, 8, 9, 10, 11, 12, 13, 14, 15, 16]]) (nb := [0, 2, 3, 6, 7, 8, 9, 10, 11, 12, 13, 14]) (by kernel_rfl) fun K hK => ?_
    simp only [go_sem, Nat.reduceAdd, Nat.reduceLT, Nat.reduceLeDiff, Nat.reduceEqDiff, Nat.reduceSub, Nat.reduceMul, Nat.reduceBEq, Nat.reduceBNe, Nat.reducePow, Nat.reduceDiv, Int.reduceLE, Int.reduceLT, Int.reduceToNat, Int.reduceNeg, Int.reduceAdd, Int.reduceSub, Int.reduceEq, reduceIte, reduceCtorEq, UInt8.reduceOfNat, sgLl, hT, hu, hn, h10, strB_list, ha, hh, e, e2, hT2, hu2]
    repeat refine And.intro (by first | omega | assumption | (simp; done) | (simp; omega) | (simp +contextual; done) | (simp_all; done) | (simp_all; omega)) ?_
    refine hK _ ?_
    clear hK K
    refine WA.retE ty_ok (xs := [.lit (.bool true)]) (ls' := []) (rv := [.tmp 6]) rfl hX (by decide) (fun _ => rfl) (fun _ _ h => h) ?_
    simp only [go_sem, Nat.reduceAdd, Nat.reduceLT, Nat.reduceLeDiff, Nat.reduceEqDiff, Nat.reduceSub, Nat.reduceMul, Nat.reduceBEq, Nat.reduceBNe, Nat.reducePow, Nat.reduceDiv, Int.reduceLE, Int.reduceLT, Int.reduceToNat, Int.reduceNeg, Int.reduceAdd, Int.reduceSub, Int.reduceEq, reduceIte, reduceCtorEq, UInt8.reduceOfNat, sbT]
    all_goals (first | done | exact Nat.le_refl _ | (simp; done) | (and_intros <;> first | omega | exact Nat.le_refl _ | (simp; done) | (simp; omega)))
theorem lawLearns2_s (s : Sto) (b : Cn) (c : Ct) (hn : NmOK s.pts) (_ : -9223372036854775808 ≤ b.rt ∧ b.rt ≤ 9223372036854775807) (h : c.iss.length ≤ 9223372036854775807 ∧ c.hold.length ≤ 9223372036854775807) : FnS Tryd.prog 7 [stoA s, cnA b, ctA c] [] (.lit (.bool true)) [] := lawLearns_s s b c hn h.1 h.2
end Go.Proofs.YtgmmdijmlnehlaaDoor
