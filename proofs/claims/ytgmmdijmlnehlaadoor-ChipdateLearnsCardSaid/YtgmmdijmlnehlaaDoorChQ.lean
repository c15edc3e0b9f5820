import Derived.Test.YtgmmdijmlnehlaaDoorChP
namespace Go.Proofs.YtgmmdijmlnehlaaDoor
open Go.RowKit Go.TravelBase Go.TravelAbs
set_option linter.unusedVariables false
set_option linter.unusedSimpArgs false



















/-! ### Learn, of the document -/
def sgRL : Sg := fun f args ls =>
  match f, args, ls with
  | 12, [.agg [.li es xs, .lit (.int .i64 now)]], [] => some (.lit (.int .i64 (validE ⟨xs.map unT, now⟩)), [], es = 5 ∧ xs = (xs.map unT).map ptA ∧ NmOK (xs.map unT))
  | 24, [.agg [.lit (.string a), .lit (.string h), .lit (.int .i64 k), .lit (.int .i64 r), .lit (.int .i64 rt), .lit (.int .i64 fr), .lit (.int .i64 t), .lit (.int .i64 x), .lit (.int .i64 y)]], [] => some (.lit (.int .i64 (checkE ⟨a.data.toList, h.data.toList, k, r, rt, fr, t, x, y⟩)), [], a.data.toList.length ≤ 9223372036854775807 ∧ h.data.toList.length ≤ 9223372036854775807)
  | _, _, _ => none
theorem sgRL_ok : SgOK Tryd.prog sgRL := by
  intro f args ls r ls' vc h hvc
  unfold sgRL at h
  split at h <;> first | (simp only [Option.some.injEq, Prod.mk.injEq] at h; obtain ⟨rfl, rfl, rfl⟩ := h) | cases h
  · obtain ⟨rfl, h2, h3⟩ := hvc
    refine ⟨(fnOK Tryd.func12 (by decide) rfl), ?_⟩
    rename_i xs now
    have := rvalid_s ⟨xs.map unT, now⟩ h3
    unfold stoA at this
    rw [← h2] at this
    exact this
  · exact ⟨(fnOK Tryd.func24 (by decide) rfl), rcheck_s ⟨_, _, _, _, _, _, _, _, _⟩ hvc.1 hvc.2⟩
theorem hasB_no {l : List Pt} {n : List UInt8} (h : ∀ j (hj : j < l.length), hasP n l[j] = false) : hasB l n = false := by
  unfold hasB
  rw [List.any_eq_false]
  intro p hp
  obtain ⟨j, hj, rfl⟩ := List.getElem_of_mem hp
  rw [h j hj]
  decide
theorem hasB_yes {l : List Pt} {n : List UInt8} {j : Nat} (hj : j < l.length) (h : hasP n l[j] = true) : hasB l n = true := by
  unfold hasB
  rw [List.any_eq_true]
  exact ⟨_, List.getElem_mem hj, h⟩
theorem rlearn_s (t : Sto) (b : Cn) (c : Ct) (hl : t.pts.length ≤ 1000000) (hm : NmOK t.pts) (ha : c.iss.length ≤ 9223372036854775807) (hh : c.hold.length ≤ 9223372036854775807) : FnS Tryd.prog 21 [stoA t, cnA b, ctA c] [] (stoA (learnS t b c)) [] := by
  obtain ⟨l, now⟩ := t
  obtain ⟨bh, bk, br, brt, bf, bt⟩ := b
  obtain ⟨ci, ch, ck, cr, crt, cf, ct, cx, cy⟩ := c
  simp only at hl hm ha hh
  have hs := sgRL_ok
  unfold stoA cnA ctA
  refine FnS.of Tryd.func21 rfl (N := 121) rfl (by simp) (by simp) fun X hX => ?_
  simp only [tmArgs, lentH, Nat.reduceAdd]
  refine WA.regionK ty_ok hs fun K hK => ?_
  simp only [go_sem, Nat.reduceAdd, Nat.reduceLT, Nat.reduceLeDiff, Nat.reduceEqDiff, Nat.reduceSub, Nat.reduceMul, Nat.reduceBEq, Nat.reduceBNe, Nat.reducePow, Nat.reduceDiv, Int.reduceLE, Int.reduceLT, Int.reduceToNat, Int.reduceNeg, Int.reduceAdd, Int.reduceSub, Int.reduceEq, reduceIte, reduceCtorEq, UInt8.reduceOfNat, TrC_pts, Tr_pts, take_pts]
  repeat refine And.intro (by first | omega | assumption | (simp; done) | (simp; omega) | (simp +contextual; done) | (simp_all; done) | (simp_all; omega)) ?_
  refine hK _ ?_
  clear hK K
  refine WA.drawnH mixed_ ty_ok hs (tbl := [[], [], [1], [0, 1, 2], [], [4], [0, 1, 2, 3, 4, 5], [], [0, 1, 2, 3, 4, 5, 6, 7]]) (nb := [2, 3, 5, 8]) (hk := [[], [], [], [], [2032], [2032], [], [2032], []]) (by kernel_rfl) fun K hK => ?_
  simp only [go_sem, Nat.reduceAdd, Nat.reduceLT, Nat.reduceLeDiff, Nat.reduceEqDiff, Nat.reduceSub, Nat.reduceMul, Nat.reduceBEq, Nat.reduceBNe, Nat.reducePow, Nat.reduceDiv, Int.reduceLE, Int.reduceLT, Int.reduceToNat, Int.reduceNeg, Int.reduceAdd, Int.reduceSub, Int.reduceEq, reduceIte, reduceCtorEq, UInt8.reduceOfNat, sgRL, un_pts, TrC_pts, Tr_pts, take_pts, List.nil_append]
  repeat refine And.intro (by first | omega | assumption | (simp; done) | (simp; omega) | (simp +contextual; done) | (simp_all; done) | (simp_all; omega)) ?_
  refine And.intro ⟨fun x hx => by obtain ⟨p, _, rfl⟩ := List.mem_map.1 hx; rfl, by omega, by omega⟩ ?_
  repeat refine And.intro (by first | omega | assumption | (simp; done) | (simp; omega) | (simp +contextual; done) | (simp_all; done) | (simp_all; omega)) ?_
  refine hK _ ?_
  clear hK K
  refine WA.seq ?_
  refine WA.regionK ty_ok hs fun K hK => ?_
  simp only [go_sem, Nat.reduceAdd, Nat.reduceLT, Nat.reduceLeDiff, Nat.reduceEqDiff, Nat.reduceSub, Nat.reduceMul, Nat.reduceBEq, Nat.reduceBNe, Nat.reducePow, Nat.reduceDiv, Int.reduceLE, Int.reduceLT, Int.reduceToNat, Int.reduceNeg, Int.reduceAdd, Int.reduceSub, Int.reduceEq, reduceIte, reduceCtorEq, UInt8.reduceOfNat, sgRL, un_pts, Tr_pts, strB_list, hm, ha, hh]
  repeat refine And.intro (by first | omega | assumption | (simp; done) | (simp; omega) | (simp +contextual; done) | (simp_all; done) | (simp_all; omega)) ?_
  refine hK _ ?_
  clear hK K
  refine WA.cond rfl (fun h => ?_) (fun h => ?_)
  ·
    have e : learnS ⟨l, now⟩ ⟨bh, bk, br, brt, bf, bt⟩ ⟨ci, ch, ck, cr, crt, cf, ct, cx, cy⟩ = ⟨l, now⟩ := by
      unfold learnS
      rw [if_pos]
      simpa using h
    rw [e]
    refine WA.regionK ty_ok hs fun K hK => ?_
    simp only [go_sem, Nat.reduceAdd, Nat.reduceLT, Nat.reduceLeDiff, Nat.reduceEqDiff, Nat.reduceSub, Nat.reduceMul, Nat.reduceBEq, Nat.reduceBNe, Nat.reducePow, Nat.reduceDiv, Int.reduceLE, Int.reduceLT, Int.reduceToNat, Int.reduceNeg, Int.reduceAdd, Int.reduceSub, Int.reduceEq, reduceIte, reduceCtorEq, UInt8.reduceOfNat, true_and]
    repeat refine And.intro (by first | omega | assumption | (simp; done) | (simp; omega) | (simp +contextual; done) | (simp_all; done) | (simp_all; omega)) ?_
    refine hK _ ?_
    clear hK K
    refine WA.retE ty_ok (xs := [.agg [.li 5 (l.map ptA), .lit (.int .i64 now)]]) (ls' := []) (rv := [.cell 6 24]) rfl hX (by decide) (fun _ => rfl) (fun _ _ h => h) ?_
    simp only [go_sem, Nat.reduceAdd, Nat.reduceLT, Nat.reduceLeDiff, Nat.reduceEqDiff, Nat.reduceSub, Nat.reduceMul, Nat.reduceBEq, Nat.reduceBNe, Nat.reducePow, Nat.reduceDiv, Int.reduceLE, Int.reduceLT, Int.reduceToNat, Int.reduceNeg, Int.reduceAdd, Int.reduceSub, Int.reduceEq, reduceIte, reduceCtorEq, UInt8.reduceOfNat, sbT, TrC_pts, take_pts, Tr_pts]
    all_goals (first | done | exact Nat.le_refl _ | (simp; done) | (and_intros <;> first | omega | exact Nat.le_refl _ | (simp; done) | (simp; omega)))
  ·
    have h9 : ¬ (validE ⟨l, now⟩ ≠ 0 ∨ checkE ⟨ci, ch, ck, cr, crt, cf, ct, cx, cy⟩ ≠ 0) := by
      intro q
      simp only [cond_eq_ite] at h
      revert h
      simp
      rcases q with q | q
      · exact fun h => absurd h q
      · exact fun _ => q
    have e : learnS ⟨l, now⟩ ⟨bh, bk, br, brt, bf, bt⟩ ⟨ci, ch, ck, cr, crt, cf, ct, cx, cy⟩ = if cr ≠ 1 ∨ hasB l ch = true then ⟨l, nowI ⟨l, now⟩ ⟨bh, bk, br, brt, bf, bt⟩ ⟨ci, ch, ck, cr, crt, cf, ct, cx, cy⟩⟩ else ⟨if 2 < (learnL ⟨l, now⟩ ⟨bh, bk, br, brt, bf, bt⟩ ⟨ci, ch, ck, cr, crt, cf, ct, cx, cy⟩).length then (learnL ⟨l, now⟩ ⟨bh, bk, br, brt, bf, bt⟩ ⟨ci, ch, ck, cr, crt, cf, ct, cx, cy⟩).drop 1 else learnL ⟨l, now⟩ ⟨bh, bk, br, brt, bf, bt⟩ ⟨ci, ch, ck, cr, crt, cf, ct, cx, cy⟩, nowI ⟨l, now⟩ ⟨bh, bk, br, brt, bf, bt⟩ ⟨ci, ch, ck, cr, crt, cf, ct, cx, cy⟩⟩ := by
      unfold learnS
      rw [if_neg h9]
    rw [e]
    clear e h
    have hN : nowI ⟨l, now⟩ ⟨bh, bk, br, brt, bf, bt⟩ ⟨ci, ch, ck, cr, crt, cf, ct, cx, cy⟩ = if datB ⟨bh, bk, br, brt, bf, bt⟩ ⟨ci, ch, ck, cr, crt, cf, ct, cx, cy⟩ = true then max now cf else now := rfl
    unfold datB at hN
    simp only at hN
    obtain ⟨N, hN2⟩ : ∃ x, nowI ⟨l, now⟩ ⟨bh, bk, br, brt, bf, bt⟩ ⟨ci, ch, ck, cr, crt, cf, ct, cx, cy⟩ = x := ⟨_, rfl⟩
    rw [hN2] at hN ⊢
    with_reducible refine WA.skipN ?_
    repeat first | with_reducible refine WN.t ?_ | with_reducible refine WN.b ?_
    refine WA.join (fun (_ : Unit) => ⟨[(3, .ptr 3000 0 0), (4, .ptr 3008 0 0), (5, .ptr 3016 0 0), (6, .ptr 3024 0 0), (7, .ptr 3032 0 0)], [(3000, ⟨.li 2 [.agg [.li 5 (l.map ptA), .lit (.int .i64 now)]], 0, false⟩), (3008, ⟨.li 6 [.agg [.lit (.string (strB bh)), .lit (.int .i64 bk), .lit (.int .i64 br), .lit (.int .i64 brt), .lit (.int .i64 bf), .lit (.int .i64 bt)]], 0, false⟩), (3016, ⟨.li 9 [.agg [.lit (.string (strB ci)), .lit (.string (strB ch)), .lit (.int .i64 ck), .lit (.int .i64 cr), .lit (.int .i64 crt), .lit (.int .i64 cf), .lit (.int .i64 ct), .lit (.int .i64 cx), .lit (.int .i64 cy)]], 0, false⟩), (3024, ⟨.li 2 [.agg [.lit (.slice none 0 0), .lit (.int .i64 0)]], 0, false⟩), (3032, ⟨.li 2 [.agg [.sl 3040 5 0 l.length, .lit (.int .i64 N)]], 0, false⟩), (3040, ⟨.li 5 (l.map ptA), 0, false⟩)], 4000, 121⟩) (fun _ => True) ?_ ?_
    ·
      refine WA.regionK ty_ok hs fun K hK => ?_
      simp only [go_sem, Nat.reduceAdd, Nat.reduceLT, Nat.reduceLeDiff, Nat.reduceEqDiff, Nat.reduceSub, Nat.reduceMul, Nat.reduceBEq, Nat.reduceBNe, Nat.reducePow, Nat.reduceDiv, Int.reduceLE, Int.reduceLT, Int.reduceToNat, Int.reduceNeg, Int.reduceAdd, Int.reduceSub, Int.reduceEq, reduceIte, reduceCtorEq, UInt8.reduceOfNat, strB_list]
      repeat refine And.intro (by first | omega | assumption | (simp; done) | (simp; omega) | (simp +contextual; done) | (simp_all; done) | (simp_all; omega)) ?_
      refine hK _ ?_
      clear hK K
      refine WA.cond rfl (fun h => ?_) (fun h => ?_)
      ·
        rw [if_pos h] at hN
        subst hN
        refine WA.regionE ty_ok hs fun K hK => ?_
        simp only [go_sem, Nat.reduceAdd, Nat.reduceLT, Nat.reduceLeDiff, Nat.reduceEqDiff, Nat.reduceSub, Nat.reduceMul, Nat.reduceBEq, Nat.reduceBNe, Nat.reducePow, Nat.reduceDiv, Int.reduceLE, Int.reduceLT, Int.reduceToNat, Int.reduceNeg, Int.reduceAdd, Int.reduceSub, Int.reduceEq, reduceIte, reduceCtorEq, UInt8.reduceOfNat, true_and]
        repeat refine And.intro (by first | omega | assumption | (simp; done) | (simp; omega) | (simp +contextual; done) | (simp_all; done) | (simp_all; omega)) ?_
        refine hK _ (WN.mk ?_)
        repeat with_reducible refine WN.b ?_
        refine WN.join hX (fun k => if k = 3000 then 2000 else if k = 3008 then 2008 else if k = 3016 then 2016 else if k = 3024 then 2024 else if k = 3032 then 2088 else if k = 3040 then 2056 else k) (()) (trivial) (by simp only [go_sem, Int.natCast_add, Nat.reduceAdd, Nat.reduceLT, Nat.reduceLeDiff, Nat.reduceEqDiff, Nat.reduceSub, Nat.reduceMul, Nat.reduceBEq, Nat.reduceBNe, Nat.reducePow, Nat.reduceDiv, Int.reduceLE, Int.reduceLT, Int.reduceToNat, Int.reduceNeg, Int.reduceAdd, Int.reduceSub, Int.reduceEq, reduceIte, reduceCtorEq, UInt8.reduceOfNat, TrC_pts, Tr_pts] <;> (try and_intros) <;> (try omega))
      ·
        rw [if_neg (by rw [h]; decide)] at hN
        subst hN
        refine WA.skipN ?_
        repeat with_reducible refine WN.b ?_
        refine WN.join hX (fun k => if k = 3000 then 2000 else if k = 3008 then 2008 else if k = 3016 then 2016 else if k = 3024 then 2024 else if k = 3032 then 2088 else if k = 3040 then 2056 else k) (()) (trivial) (by simp only [go_sem, Int.natCast_add, Nat.reduceAdd, Nat.reduceLT, Nat.reduceLeDiff, Nat.reduceEqDiff, Nat.reduceSub, Nat.reduceMul, Nat.reduceBEq, Nat.reduceBNe, Nat.reducePow, Nat.reduceDiv, Int.reduceLE, Int.reduceLT, Int.reduceToNat, Int.reduceNeg, Int.reduceAdd, Int.reduceSub, Int.reduceEq, reduceIte, reduceCtorEq, UInt8.reduceOfNat, TrC_pts, Tr_pts] <;> (try and_intros) <;> (try omega))
    rintro - -
    refine WA.seq ?_
    refine WA.regionK ty_ok hs fun K hK => ?_
    simp only [go_sem, Nat.reduceAdd, Nat.reduceLT, Nat.reduceLeDiff, Nat.reduceEqDiff, Nat.reduceSub, Nat.reduceMul, Nat.reduceBEq, Nat.reduceBNe, Nat.reducePow, Nat.reduceDiv, Int.reduceLE, Int.reduceLT, Int.reduceToNat, Int.reduceNeg, Int.reduceAdd, Int.reduceSub, Int.reduceEq, reduceIte, reduceCtorEq, UInt8.reduceOfNat, true_and]
    repeat refine And.intro (by first | omega | assumption | (simp; done) | (simp; omega) | (simp +contextual; done) | (simp_all; done) | (simp_all; omega)) ?_
    refine hK _ ?_
    clear hK K
    refine WA.cond rfl (fun h => ?_) (fun h => ?_)
    ·
      have h : ¬ cr = 1 := by first | (simp only [Bool.and_eq_true, Bool.or_eq_true, Bool.not_eq_true', decide_eq_true_eq, decide_eq_false_iff_not, beq_iff_eq, bne_iff_ne, ne_eq, Bool.not_eq_eq_eq_not, Bool.not_true, Bool.not_false, beq_eq_false_iff_ne, bne_eq_false_iff_eq, Bool.and_eq_false_imp, Bool.or_eq_false_iff, Bool.cond_false_right, Bool.cond_true_left, Bool.cond_false_left, Bool.cond_true_right, gt_iff_lt, ge_iff_le, true_and] at h; first | exact h | omega) | omega | simpa using h
      rw [if_pos (.inl h)]
      refine WA.regionK ty_ok hs fun K hK => ?_
      simp only [go_sem, Nat.reduceAdd, Nat.reduceLT, Nat.reduceLeDiff, Nat.reduceEqDiff, Nat.reduceSub, Nat.reduceMul, Nat.reduceBEq, Nat.reduceBNe, Nat.reducePow, Nat.reduceDiv, Int.reduceLE, Int.reduceLT, Int.reduceToNat, Int.reduceNeg, Int.reduceAdd, Int.reduceSub, Int.reduceEq, reduceIte, reduceCtorEq, UInt8.reduceOfNat, true_and]
      repeat refine And.intro (by first | omega | assumption | (simp; done) | (simp; omega) | (simp +contextual; done) | (simp_all; done) | (simp_all; omega)) ?_
      refine hK _ ?_
      clear hK K
      refine WA.retE ty_ok (xs := [.agg [.li 5 (l.map ptA), .lit (.int .i64 N)]]) (ls' := []) (rv := [.cell 6 24]) rfl hX (by decide) (fun _ => rfl) (fun _ _ h => h) ?_
      simp only [go_sem, Nat.reduceAdd, Nat.reduceLT, Nat.reduceLeDiff, Nat.reduceEqDiff, Nat.reduceSub, Nat.reduceMul, Nat.reduceBEq, Nat.reduceBNe, Nat.reducePow, Nat.reduceDiv, Int.reduceLE, Int.reduceLT, Int.reduceToNat, Int.reduceNeg, Int.reduceAdd, Int.reduceSub, Int.reduceEq, reduceIte, reduceCtorEq, UInt8.reduceOfNat, sbT, TrC_pts, take_pts, Tr_pts]
      all_goals (first | done | exact Nat.le_refl _ | (simp; done) | (and_intros <;> first | omega | exact Nat.le_refl _ | (simp; done) | (simp; omega)))
    ·
      have h : cr = 1 := by first | (simp only [Bool.and_eq_true, Bool.or_eq_true, Bool.not_eq_true', decide_eq_true_eq, decide_eq_false_iff_not, beq_iff_eq, bne_iff_ne, ne_eq, Bool.not_eq_eq_eq_not, Bool.not_true, Bool.not_false, beq_eq_false_iff_ne, bne_eq_false_iff_eq, Bool.and_eq_false_imp, Bool.or_eq_false_iff, Bool.cond_false_right, Bool.cond_true_left, Bool.cond_false_left, Bool.cond_true_right, gt_iff_lt, ge_iff_le, true_and] at h; first | exact h | omega) | omega | simpa using h
      subst h
      with_reducible refine WA.skipN ?_
      repeat first | with_reducible refine WN.t ?_ | with_reducible refine WN.b ?_
      refine WA.seq ?_
      refine WA.regionK ty_ok hs fun K hK => ?_
      simp only [go_sem, Nat.reduceAdd, Nat.reduceLT, Nat.reduceLeDiff, Nat.reduceEqDiff, Nat.reduceSub, Nat.reduceMul, Nat.reduceBEq, Nat.reduceBNe, Nat.reducePow, Nat.reduceDiv, Int.reduceLE, Int.reduceLT, Int.reduceToNat, Int.reduceNeg, Int.reduceAdd, Int.reduceSub, Int.reduceEq, reduceIte, reduceCtorEq, UInt8.reduceOfNat, true_and]
      repeat refine And.intro (by first | omega | assumption | (simp; done) | (simp; omega) | (simp +contextual; done) | (simp_all; done) | (simp_all; omega)) ?_
      refine hK _ ?_
      clear hK K
      refine WA.block ?_
      refine WA.loopW hX (fun k => k) ((fun (i : Nat) => ⟨[(3, .ptr 3000 0 0), (4, .ptr 3008 0 0), (5, .ptr 3016 0 0), (6, .ptr 3024 0 0), (7, .ptr 3032 0 0), (8, .lit (.int .i64 (i : Nat)))], [(3000, ⟨.li 2 [.agg [.li 5 (l.map ptA), .lit (.int .i64 now)]], 0, false⟩), (3008, ⟨.li 6 [.agg [.lit (.string (strB bh)), .lit (.int .i64 bk), .lit (.int .i64 br), .lit (.int .i64 brt), .lit (.int .i64 bf), .lit (.int .i64 bt)]], 0, false⟩), (3016, ⟨.li 9 [.agg [.lit (.string (strB ci)), .lit (.string (strB ch)), .lit (.int .i64 ck), .lit (.int .i64 1), .lit (.int .i64 crt), .lit (.int .i64 cf), .lit (.int .i64 ct), .lit (.int .i64 cx), .lit (.int .i64 cy)]], 0, false⟩), (3024, ⟨.li 2 [.agg [.lit (.slice none 0 0), .lit (.int .i64 0)]], 0, false⟩), (3032, ⟨.li 2 [.agg [.sl 3040 5 0 l.length, .lit (.int .i64 N)]], 0, false⟩), (3040, ⟨.li 5 (l.map ptA), 0, false⟩)], 5000, 121⟩ : _ → St)) (fun i => l.length - i) (fun i => i ≤ l.length ∧ ∀ j (hj : j < l.length), j < i → hasP ch l[j] = false) (i0 := 0) (⟨Nat.zero_le _, fun j _ hj => by omega⟩) (by simp only [go_sem, Int.natCast_add, Nat.reduceAdd, Nat.reduceLT, Nat.reduceLeDiff, Nat.reduceEqDiff, Nat.reduceSub, Nat.reduceMul, Nat.reduceBEq, Nat.reduceBNe, Nat.reducePow, Nat.reduceDiv, Int.reduceLE, Int.reduceLT, Int.reduceToNat, Int.reduceNeg, Int.reduceAdd, Int.reduceSub, Int.reduceEq, reduceIte, reduceCtorEq, UInt8.reduceOfNat, TrC_pts, Tr_pts, Int.natCast_zero] <;> (try and_intros) <;> (try omega)) fun i hi => ?_
      obtain ⟨hi, hno⟩ := hi
      refine WA.seq ?_
      refine WA.regionK ty_ok hs fun K hK => ?_
      simp only [go_sem, Nat.reduceAdd, Nat.reduceLT, Nat.reduceLeDiff, Nat.reduceEqDiff, Nat.reduceSub, Nat.reduceMul, Nat.reduceBEq, Nat.reduceBNe, Nat.reducePow, Nat.reduceDiv, Int.reduceLE, Int.reduceLT, Int.reduceToNat, Int.reduceNeg, Int.reduceAdd, Int.reduceSub, Int.reduceEq, reduceIte, reduceCtorEq, UInt8.reduceOfNat, List.length_map]
      repeat refine And.intro (by first | omega | assumption | (simp; done) | (simp; omega) | (simp +contextual; done) | (simp_all; done) | (simp_all; omega)) ?_
      refine hK _ ?_
      clear hK K
      refine WA.cond rfl (fun h => ?_) (fun h => ?_)
      ·
        with_reducible refine WA.skipN ?_
        repeat first | with_reducible refine WN.t ?_ | with_reducible refine WN.b ?_
        have h : i < l.length := by first | (simp only [Bool.and_eq_true, Bool.or_eq_true, Bool.not_eq_true', decide_eq_true_eq, decide_eq_false_iff_not, beq_iff_eq, bne_iff_ne, ne_eq, Bool.not_eq_eq_eq_not, Bool.not_true, Bool.not_false, beq_eq_false_iff_ne, bne_eq_false_iff_eq, Bool.and_eq_false_imp, Bool.or_eq_false_iff, Bool.cond_false_right, Bool.cond_true_left, Bool.cond_false_left, Bool.cond_true_right, gt_iff_lt, ge_iff_le, true_and] at h; first | exact h | omega) | omega | simpa using h
        have g := pt_at h
        refine WA.seq ?_
        refine WA.block ?_
        refine WA.drawnK mixed_ ty_ok hs (tbl := [[], [0], [], [0, 1, 2], [0, 1, 2, 3], [0, 1, 2, 3, 4], [], [6], [0, 1, 2, 3, 4, 5, 6, 7]]) (nb := [1, 5, 7]) (by kernel_rfl) fun K hK => ?_
        simp only [go_sem, Nat.reduceAdd, Nat.reduceLT, Nat.reduceLeDiff, Nat.reduceEqDiff, Nat.reduceSub, Nat.reduceMul, Nat.reduceBEq, Nat.reduceBNe, Nat.reducePow, Nat.reduceDiv, Int.reduceLE, Int.reduceLT, Int.reduceToNat, Int.reduceNeg, Int.reduceAdd, Int.reduceSub, Int.reduceEq, reduceIte, reduceCtorEq, UInt8.reduceOfNat, g, List.length_map, strB_toList]
        repeat refine And.intro (by first | omega | assumption | (simp; done) | (simp; omega) | (simp +contextual; done) | (simp_all; done) | (simp_all; omega)) ?_
        refine hK _ ?_
        clear hK K
        refine WA.cond rfl (fun h2 => ?_) (fun h2 => ?_)
        ·
          rw [if_pos (.inr (hasB_yes h h2))]
          refine WA.regionK ty_ok hs fun K hK => ?_
          simp only [go_sem, Nat.reduceAdd, Nat.reduceLT, Nat.reduceLeDiff, Nat.reduceEqDiff, Nat.reduceSub, Nat.reduceMul, Nat.reduceBEq, Nat.reduceBNe, Nat.reducePow, Nat.reduceDiv, Int.reduceLE, Int.reduceLT, Int.reduceToNat, Int.reduceNeg, Int.reduceAdd, Int.reduceSub, Int.reduceEq, reduceIte, reduceCtorEq, UInt8.reduceOfNat, true_and]
          repeat refine And.intro (by first | omega | assumption | (simp; done) | (simp; omega) | (simp +contextual; done) | (simp_all; done) | (simp_all; omega)) ?_
          refine hK _ ?_
          clear hK K
          refine WA.retE ty_ok (xs := [.agg [.li 5 (l.map ptA), .lit (.int .i64 N)]]) (ls' := []) (rv := [.cell 6 24]) rfl hX (by decide) (fun _ => rfl) (fun _ _ h => h) ?_
          simp only [go_sem, Nat.reduceAdd, Nat.reduceLT, Nat.reduceLeDiff, Nat.reduceEqDiff, Nat.reduceSub, Nat.reduceMul, Nat.reduceBEq, Nat.reduceBNe, Nat.reducePow, Nat.reduceDiv, Int.reduceLE, Int.reduceLT, Int.reduceToNat, Int.reduceNeg, Int.reduceAdd, Int.reduceSub, Int.reduceEq, reduceIte, reduceCtorEq, UInt8.reduceOfNat, sbT, TrC_pts, take_pts, Tr_pts]
          all_goals (first | done | exact Nat.le_refl _ | (simp; done) | (and_intros <;> first | omega | exact Nat.le_refl _ | (simp; done) | (simp; omega)))
        ·
          with_reducible refine WA.skipN ?_
          repeat first | with_reducible refine WN.t ?_ | with_reducible refine WN.b ?_
          refine WA.regionE ty_ok hs fun K hK => ?_
          simp only [go_sem, Nat.reduceAdd, Nat.reduceLT, Nat.reduceLeDiff, Nat.reduceEqDiff, Nat.reduceSub, Nat.reduceMul, Nat.reduceBEq, Nat.reduceBNe, Nat.reducePow, Nat.reduceDiv, Int.reduceLE, Int.reduceLT, Int.reduceToNat, Int.reduceNeg, Int.reduceAdd, Int.reduceSub, Int.reduceEq, reduceIte, reduceCtorEq, UInt8.reduceOfNat, true_and]
          repeat refine And.intro (by first | omega | assumption | (simp; done) | (simp; omega) | (simp +contextual; done) | (simp_all; done) | (simp_all; omega)) ?_
          refine hK _ (roundE hX (fun k => k) (j := i + 1) (⟨by omega, fun j hj q => by rcases Nat.lt_succ_iff_lt_or_eq.1 q with q | rfl; exact hno j hj q; exact h2⟩) (by first | omega | (dsimp only; omega) | (simp; omega)) (by simp only [go_sem, Int.natCast_add, Nat.reduceAdd, Nat.reduceLT, Nat.reduceLeDiff, Nat.reduceEqDiff, Nat.reduceSub, Nat.reduceMul, Nat.reduceBEq, Nat.reduceBNe, Nat.reducePow, Nat.reduceDiv, Int.reduceLE, Int.reduceLT, Int.reduceToNat, Int.reduceNeg, Int.reduceAdd, Int.reduceSub, Int.reduceEq, reduceIte, reduceCtorEq, UInt8.reduceOfNat, TrC_pts, Tr_pts] <;> (try and_intros) <;> (try omega)))
      ·
        with_reducible refine WA.exitX ?_
        repeat first | with_reducible refine WX.b ?_ | with_reducible refine WX.t ?_ | (with_reducible refine WX.n ?hne ?_; case hne => rfl)
        have h : ¬ i < l.length := by first | (simp only [Bool.and_eq_true, Bool.or_eq_true, Bool.not_eq_true', decide_eq_true_eq, decide_eq_false_iff_not, beq_iff_eq, bne_iff_ne, ne_eq, Bool.not_eq_eq_eq_not, Bool.not_true, Bool.not_false, beq_eq_false_iff_ne, bne_eq_false_iff_eq, Bool.and_eq_false_imp, Bool.or_eq_false_iff, Bool.cond_false_right, Bool.cond_true_left, Bool.cond_false_left, Bool.cond_true_right, gt_iff_lt, ge_iff_le, true_and] at h; first | exact h | omega) | omega | simpa using h
        have hB := hasB_no fun j hj => hno j hj (by omega)
        rw [if_neg (fun q => by rcases q with q | q; exact q rfl; rw [hB] at q; cases q)]
        refine WA.regionK ty_ok hs fun K hK => ?_
        simp only [go_sem, Nat.reduceAdd, Nat.reduceLT, Nat.reduceLeDiff, Nat.reduceEqDiff, Nat.reduceSub, Nat.reduceMul, Nat.reduceBEq, Nat.reduceBNe, Nat.reducePow, Nat.reduceDiv, Int.reduceLE, Int.reduceLT, Int.reduceToNat, Int.reduceNeg, Int.reduceAdd, Int.reduceSub, Int.reduceEq, reduceIte, reduceCtorEq, UInt8.reduceOfNat, List.length_map]
        repeat refine And.intro (by first | omega | assumption | (simp; done) | (simp; omega) | (simp +contextual; done) | (simp_all; done) | (simp_all; omega)) ?_
        refine hK _ ?_
        clear hK K
        obtain ⟨np, hnp⟩ : ∃ np : Pt, (⟨ch, ck, bits .and .i64 crt brt, cf, ct⟩ : Pt) = np := ⟨_, rfl⟩
        have enp : newP ⟨bh, bk, br, brt, bf, bt⟩ ⟨ci, ch, ck, 1, crt, cf, ct, cx, cy⟩ = np := hnp
        obtain ⟨o, ho⟩ : ∃ o, l ++ [np] = o := ⟨_, rfl⟩
        have hol : l.length + 1 = o.length := by rw [← ho]; simp
        have hom : l.map ptA ++ [AV.agg [.lit (.string (strB ch)), .lit (.int .i64 ck), .lit (.int .i64 (bits .and .i64 crt brt)), .lit (.int .i64 cf), .lit (.int .i64 ct)]] = o.map ptA := by
          rw [← ho, ← hnp]
          simp [ptA]
        have hL : learnL ⟨l, now⟩ ⟨bh, bk, br, brt, bf, bt⟩ ⟨ci, ch, ck, 1, crt, cf, ct, cx, cy⟩ = keepL N l ++ [np] := by
          unfold learnL
          rw [hN2, enp]
        have kp0 : kpI N l np 0 = [] := rfl
        have hKl : ∀ i, (kpI N l np i).length ≤ i := kpI_len N l np
        rw [hL, hom, hol]
        refine WA.regionK ty_ok hs fun K hK => ?_
        simp only [go_sem, Nat.reduceAdd, Nat.reduceLT, Nat.reduceLeDiff, Nat.reduceEqDiff, Nat.reduceSub, Nat.reduceMul, Nat.reduceBEq, Nat.reduceBNe, Nat.reducePow, Nat.reduceDiv, Int.reduceLE, Int.reduceLT, Int.reduceToNat, Int.reduceNeg, Int.reduceAdd, Int.reduceSub, Int.reduceEq, reduceIte, reduceCtorEq, UInt8.reduceOfNat, true_and]
        repeat refine And.intro (by first | omega | assumption | (simp; done) | (simp; omega) | (simp +contextual; done) | (simp_all; done) | (simp_all; omega)) ?_
        refine hK _ ?_
        clear hK K
        refine WA.own0 9 (.li 5 []) rfl rfl ?_
        refine WA.seq ?_
        refine WA.regionK ty_ok hs fun K hK => ?_
        simp only [go_sem, Nat.reduceAdd, Nat.reduceLT, Nat.reduceLeDiff, Nat.reduceEqDiff, Nat.reduceSub, Nat.reduceMul, Nat.reduceBEq, Nat.reduceBNe, Nat.reducePow, Nat.reduceDiv, Int.reduceLE, Int.reduceLT, Int.reduceToNat, Int.reduceNeg, Int.reduceAdd, Int.reduceSub, Int.reduceEq, reduceIte, reduceCtorEq, UInt8.reduceOfNat, true_and]
        repeat refine And.intro (by first | omega | assumption | (simp; done) | (simp; omega) | (simp +contextual; done) | (simp_all; done) | (simp_all; omega)) ?_
        refine hK _ ?_
        clear hK K
        refine WA.block ?_
        refine WA.loopW hX (fun k => if k = 3048 then 5208 else if k = 3040 then 5176 else k) ((fun (i : Nat) => ⟨[(6, .ptr 3024 0 0), (7, .ptr 3032 0 0), (9, .sl 3048 5 0 (kpI N l np i).length), (10, .lit (.int .i64 (i : Nat)))], [(3024, ⟨.li 2 [.agg [.lit (.slice none 0 0), .lit (.int .i64 0)]], 0, false⟩), (3032, ⟨.li 2 [.agg [.sl 3040 5 0 o.length, .lit (.int .i64 N)]], 0, false⟩), (3040, ⟨.li 5 (o.map ptA), 0, false⟩), (3048, ⟨.li 5 ((kpI N l np i).map ptA), 0, false⟩)], 6000, 121⟩ : _ → St)) (fun i => o.length - i) (fun i => i ≤ o.length) (i0 := 0) (Nat.zero_le _) (by simp only [go_sem, Int.natCast_add, Nat.reduceAdd, Nat.reduceLT, Nat.reduceLeDiff, Nat.reduceEqDiff, Nat.reduceSub, Nat.reduceMul, Nat.reduceBEq, Nat.reduceBNe, Nat.reducePow, Nat.reduceDiv, Int.reduceLE, Int.reduceLT, Int.reduceToNat, Int.reduceNeg, Int.reduceAdd, Int.reduceSub, Int.reduceEq, reduceIte, reduceCtorEq, UInt8.reduceOfNat, TrC_pts, Int.natCast_zero, kp0] <;> (try and_intros) <;> (try omega)) fun i hi => ?_
        refine WA.seq ?_
        refine WA.regionK ty_ok hs fun K hK => ?_
        simp only [go_sem, Nat.reduceAdd, Nat.reduceLT, Nat.reduceLeDiff, Nat.reduceEqDiff, Nat.reduceSub, Nat.reduceMul, Nat.reduceBEq, Nat.reduceBNe, Nat.reducePow, Nat.reduceDiv, Int.reduceLE, Int.reduceLT, Int.reduceToNat, Int.reduceNeg, Int.reduceAdd, Int.reduceSub, Int.reduceEq, reduceIte, reduceCtorEq, UInt8.reduceOfNat, List.length_map]
        repeat refine And.intro (by first | omega | assumption | (simp; done) | (simp; omega) | (simp +contextual; done) | (simp_all; done) | (simp_all; omega)) ?_
        refine hK _ ?_
        clear hK K
        refine WA.cond rfl (fun h => ?_) (fun h => ?_)
        ·
          with_reducible refine WA.skipN ?_
          repeat first | with_reducible refine WN.t ?_ | with_reducible refine WN.b ?_
          have h : i < o.length := by first | (simp only [Bool.and_eq_true, Bool.or_eq_true, Bool.not_eq_true', decide_eq_true_eq, decide_eq_false_iff_not, beq_iff_eq, bne_iff_ne, ne_eq, Bool.not_eq_eq_eq_not, Bool.not_true, Bool.not_false, beq_eq_false_iff_ne, bne_eq_false_iff_eq, Bool.and_eq_false_imp, Bool.or_eq_false_iff, Bool.cond_false_right, Bool.cond_true_left, Bool.cond_false_left, Bool.cond_true_right, gt_iff_lt, ge_iff_le, true_and] at h; first | exact h | omega) | omega | simpa using h
          have g := pt_at h
          have hKl2 := hKl i
          refine WA.seq ?_
          refine WA.block ?_
          refine WA.drawnK mixed_ ty_ok hs (tbl := [[], [], [1], [1, 2], [1, 2, 3], [0, 1, 2, 3, 4], [0, 1, 2, 3, 4, 5], [0, 1, 2, 3, 4, 5, 6], [0, 1, 2, 3, 4, 5, 6, 7], [0, 1, 2, 3, 4, 5, 6], [0, 1, 2, 3, 4, 5, 6, 7, 8, 9], [0, 1, 2, 3, 4, 5, 6, 7, 8, 9, 10], [0, 1, 2, 3, 4, 5, 6, 7, 8, 9, 10, 11], [0, 1, 2, 3, 4, 5, 6], [0, 1, 2, 3, 4, 5, 6, 13], [0, 1, 2, 3, 4, 5, 6, 7, 8, 9, 10, 11, 12, 13, 14], [0, 1, 2, 3, 4, 5, 6, 7, 8, 9, 10, 11, 12, 13, 14, 15]]) (nb := [2, 8, 12, 14]) (by kernel_rfl) fun K hK => ?_
          simp only [go_sem, Nat.reduceAdd, Nat.reduceLT, Nat.reduceLeDiff, Nat.reduceEqDiff, Nat.reduceSub, Nat.reduceMul, Nat.reduceBEq, Nat.reduceBNe, Nat.reducePow, Nat.reduceDiv, Int.reduceLE, Int.reduceLT, Int.reduceToNat, Int.reduceNeg, Int.reduceAdd, Int.reduceSub, Int.reduceEq, reduceIte, reduceCtorEq, UInt8.reduceOfNat, g, List.length_map]
          refine And.intro (by and_intros <;> first | omega | (intro g; and_intros <;> first | exact g | (simp [*]; done) | omega)) ?_
          refine hK _ ?_
          clear hK K
          have z1 : kpI N l np (i + 1) = if i = l.length ∨ N ≤ o[i].til then kpI N l np i ++ [o[i]] else kpI N l np i := by
            subst ho
            exact kpI_succ N l np h
          have hl9 : (kpI N l np i).length ≤ 1000001 := by omega
          refine WA.cond rfl (fun h2 => ?_) (fun h2 => ?_)
          ·
            have h3 : i = l.length ∨ N ≤ o[i].til := by
              cases e : ((i : Int) == (o.length : Int) - 1)
              · rw [e] at h2
                exact .inr (of_decide_eq_true h2)
              · simp only [beq_iff_eq] at e
                exact .inl (by omega)
            rw [if_pos h3] at z1
            have t9 := TrC_pts (kpI N l np (i + 1))
            rw [z1] at t9
            simp only [List.map_append, List.map_cons, List.map_nil, ptA] at t9
            refine WA.regionE ty_ok hs fun K hK => ?_
            simp only [go_sem, Nat.reduceAdd, Nat.reduceLT, Nat.reduceLeDiff, Nat.reduceEqDiff, Nat.reduceSub, Nat.reduceMul, Nat.reduceBEq, Nat.reduceBNe, Nat.reducePow, Nat.reduceDiv, Int.reduceLE, Int.reduceLT, Int.reduceToNat, Int.reduceNeg, Int.reduceAdd, Int.reduceSub, Int.reduceEq, reduceIte, reduceCtorEq, UInt8.reduceOfNat, g, List.length_map]
            repeat refine And.intro (by first | omega | assumption | (simp; done) | (simp; omega) | (simp +contextual; done) | (simp_all; done) | (simp_all; omega)) ?_
            with_reducible refine hK _ (WN.mk ?_)
            clear hK K
            repeat first | with_reducible refine WN.t ?_ | with_reducible refine WN.b ?_
            refine WA.regionE ty_ok hs fun K hK => ?_
            simp only [go_sem, Nat.reduceAdd, Nat.reduceLT, Nat.reduceLeDiff, Nat.reduceEqDiff, Nat.reduceSub, Nat.reduceMul, Nat.reduceBEq, Nat.reduceBNe, Nat.reducePow, Nat.reduceDiv, Int.reduceLE, Int.reduceLT, Int.reduceToNat, Int.reduceNeg, Int.reduceAdd, Int.reduceSub, Int.reduceEq, reduceIte, reduceCtorEq, UInt8.reduceOfNat, true_and]
            repeat refine And.intro (by first | omega | assumption | (simp; done) | (simp; omega) | (simp +contextual; done) | (simp_all; done) | (simp_all; omega)) ?_
            refine hK _ (roundE hX (fun k => if k = 3048 then 6232 else k) (j := i + 1) (by omega) (by first | omega | (dsimp only; omega) | (simp; omega)) (by simp only [go_sem, Int.natCast_add, Nat.reduceAdd, Nat.reduceLT, Nat.reduceLeDiff, Nat.reduceEqDiff, Nat.reduceSub, Nat.reduceMul, Nat.reduceBEq, Nat.reduceBNe, Nat.reducePow, Nat.reduceDiv, Int.reduceLE, Int.reduceLT, Int.reduceToNat, Int.reduceNeg, Int.reduceAdd, Int.reduceSub, Int.reduceEq, reduceIte, reduceCtorEq, UInt8.reduceOfNat, t9, z1, List.map_append, List.map_cons, List.map_nil, ptA, List.length_append, List.length_cons, List.length_nil, TrC_pts] <;> (try and_intros) <;> (try omega)))
          ·
            have h3 : ¬ (i = l.length ∨ N ≤ o[i].til) := by
              cases e : ((i : Int) == (o.length : Int) - 1)
              · rw [e] at h2
                have h4 := of_decide_eq_false (show decide (o[i].til ≥ N) = false from h2)
                rw [beq_eq_false_iff_ne] at e
                omega
              · rw [e] at h2
                cases h2
            rw [if_neg h3] at z1
            with_reducible refine WA.skipN ?_
            repeat first | with_reducible refine WN.t ?_ | with_reducible refine WN.b ?_
            refine WA.regionE ty_ok hs fun K hK => ?_
            simp only [go_sem, Nat.reduceAdd, Nat.reduceLT, Nat.reduceLeDiff, Nat.reduceEqDiff, Nat.reduceSub, Nat.reduceMul, Nat.reduceBEq, Nat.reduceBNe, Nat.reducePow, Nat.reduceDiv, Int.reduceLE, Int.reduceLT, Int.reduceToNat, Int.reduceNeg, Int.reduceAdd, Int.reduceSub, Int.reduceEq, reduceIte, reduceCtorEq, UInt8.reduceOfNat, true_and]
            repeat refine And.intro (by first | omega | assumption | (simp; done) | (simp; omega) | (simp +contextual; done) | (simp_all; done) | (simp_all; omega)) ?_
            refine hK _ (roundE hX (fun k => k) (j := i + 1) (by omega) (by first | omega | (dsimp only; omega) | (simp; omega)) (by simp only [go_sem, Int.natCast_add, Nat.reduceAdd, Nat.reduceLT, Nat.reduceLeDiff, Nat.reduceEqDiff, Nat.reduceSub, Nat.reduceMul, Nat.reduceBEq, Nat.reduceBNe, Nat.reducePow, Nat.reduceDiv, Int.reduceLE, Int.reduceLT, Int.reduceToNat, Int.reduceNeg, Int.reduceAdd, Int.reduceSub, Int.reduceEq, reduceIte, reduceCtorEq, UInt8.reduceOfNat, z1, TrC_pts] <;> (try and_intros) <;> (try omega)))
        ·
          with_reducible refine WA.exitX ?_
          repeat first | with_reducible refine WX.b ?_ | with_reducible refine WX.t ?_ | (with_reducible refine WX.n ?hne ?_; case hne => rfl)
          have h : ¬ i < o.length := by first | (simp only [Bool.and_eq_true, Bool.or_eq_true, Bool.not_eq_true', decide_eq_true_eq, decide_eq_false_iff_not, beq_iff_eq, bne_iff_ne, ne_eq, Bool.not_eq_eq_eq_not, Bool.not_true, Bool.not_false, beq_eq_false_iff_ne, bne_eq_false_iff_eq, Bool.and_eq_false_imp, Bool.or_eq_false_iff, Bool.cond_false_right, Bool.cond_true_left, Bool.cond_false_left, Bool.cond_true_right, gt_iff_lt, ge_iff_le, true_and] at h; first | exact h | omega) | omega | simpa using h
          have hi9 : i = l.length + 1 := by omega
          subst hi9
          rw [kpI_end]
          obtain ⟨K, hK9⟩ : ∃ K, keepL N l ++ [np] = K := ⟨_, rfl⟩
          rw [hK9]
          have hKl3 : K.length ≤ 1000001 := by
            have := hKl (l.length + 1)
            rw [kpI_end, hK9] at this
            omega
          refine WA.seq ?_
          refine WA.regionK ty_ok hs fun K hK => ?_
          simp only [go_sem, Nat.reduceAdd, Nat.reduceLT, Nat.reduceLeDiff, Nat.reduceEqDiff, Nat.reduceSub, Nat.reduceMul, Nat.reduceBEq, Nat.reduceBNe, Nat.reducePow, Nat.reduceDiv, Int.reduceLE, Int.reduceLT, Int.reduceToNat, Int.reduceNeg, Int.reduceAdd, Int.reduceSub, Int.reduceEq, reduceIte, reduceCtorEq, UInt8.reduceOfNat, true_and]
          repeat refine And.intro (by first | omega | assumption | (simp; done) | (simp; omega) | (simp +contextual; done) | (simp_all; done) | (simp_all; omega)) ?_
          refine hK _ ?_
          clear hK K
          refine WA.cond rfl (fun h => ?_) (fun h => ?_)
          ·
            have h : 2 < K.length := by first | (simp only [Bool.and_eq_true, Bool.or_eq_true, Bool.not_eq_true', decide_eq_true_eq, decide_eq_false_iff_not, beq_iff_eq, bne_iff_ne, ne_eq, Bool.not_eq_eq_eq_not, Bool.not_true, Bool.not_false, beq_eq_false_iff_ne, bne_eq_false_iff_eq, Bool.and_eq_false_imp, Bool.or_eq_false_iff, Bool.cond_false_right, Bool.cond_true_left, Bool.cond_false_left, Bool.cond_true_right, gt_iff_lt, ge_iff_le, true_and] at h; first | exact h | omega) | omega | simpa using h
            rw [if_pos h]
            have d1 : List.take (K.length - 1) (List.drop 1 (K.map ptA)) = (K.drop 1).map ptA := by
              rw [← List.map_drop]
              exact List.take_of_length_le (by simp)
            obtain ⟨D, hD⟩ : ∃ D, K.drop 1 = D := ⟨_, rfl⟩
            rw [hD] at d1 ⊢
            refine WA.regionE ty_ok hs fun K hK => ?_
            simp only [go_sem, Nat.reduceAdd, Nat.reduceLT, Nat.reduceLeDiff, Nat.reduceEqDiff, Nat.reduceSub, Nat.reduceMul, Nat.reduceBEq, Nat.reduceBNe, Nat.reducePow, Nat.reduceDiv, Int.reduceLE, Int.reduceLT, Int.reduceToNat, Int.reduceNeg, Int.reduceAdd, Int.reduceSub, Int.reduceEq, reduceIte, reduceCtorEq, UInt8.reduceOfNat, TrC_pts, Tr_pts]
            repeat refine And.intro (by first | omega | assumption | (simp; done) | (simp; omega) | (simp +contextual; done) | (simp_all; done) | (simp_all; omega)) ?_
            with_reducible refine hK _ (WN.mk ?_)
            clear hK K
            repeat first | with_reducible refine WN.t ?_ | with_reducible refine WN.b ?_
            refine WA.regionK ty_ok hs fun K hK => ?_
            simp only [go_sem, Nat.reduceAdd, Nat.reduceLT, Nat.reduceLeDiff, Nat.reduceEqDiff, Nat.reduceSub, Nat.reduceMul, Nat.reduceBEq, Nat.reduceBNe, Nat.reducePow, Nat.reduceDiv, Int.reduceLE, Int.reduceLT, Int.reduceToNat, Int.reduceNeg, Int.reduceAdd, Int.reduceSub, Int.reduceEq, reduceIte, reduceCtorEq, UInt8.reduceOfNat, true_and]
            repeat refine And.intro (by first | omega | assumption | (simp; done) | (simp; omega) | (simp +contextual; done) | (simp_all; done) | (simp_all; omega)) ?_
            refine hK _ ?_
            clear hK K
            refine WA.regionK ty_ok hs fun K hK => ?_
            simp only [go_sem, Nat.reduceAdd, Nat.reduceLT, Nat.reduceLeDiff, Nat.reduceEqDiff, Nat.reduceSub, Nat.reduceMul, Nat.reduceBEq, Nat.reduceBNe, Nat.reducePow, Nat.reduceDiv, Int.reduceLE, Int.reduceLT, Int.reduceToNat, Int.reduceNeg, Int.reduceAdd, Int.reduceSub, Int.reduceEq, reduceIte, reduceCtorEq, UInt8.reduceOfNat, true_and]
            repeat refine And.intro (by first | omega | assumption | (simp; done) | (simp; omega) | (simp +contextual; done) | (simp_all; done) | (simp_all; omega)) ?_
            refine hK _ ?_
            clear hK K
            refine WA.retE ty_ok (xs := [.agg [.li 5 (D.map ptA), .lit (.int .i64 N)]]) (ls' := []) (rv := [.cell 6 24]) rfl hX (by decide) (fun _ => rfl) (fun _ _ h => h) ?_
            simp only [go_sem, Nat.reduceAdd, Nat.reduceLT, Nat.reduceLeDiff, Nat.reduceEqDiff, Nat.reduceSub, Nat.reduceMul, Nat.reduceBEq, Nat.reduceBNe, Nat.reducePow, Nat.reduceDiv, Int.reduceLE, Int.reduceLT, Int.reduceToNat, Int.reduceNeg, Int.reduceAdd, Int.reduceSub, Int.reduceEq, reduceIte, reduceCtorEq, UInt8.reduceOfNat, sbT, d1, TrC_pts, take_pts, Tr_pts]
            all_goals (first | done | exact Nat.le_refl _ | (simp; done) | (and_intros <;> first | omega | exact Nat.le_refl _ | (simp; done) | (simp; omega)))
          ·
            have h : ¬ 2 < K.length := by first | (simp only [Bool.and_eq_true, Bool.or_eq_true, Bool.not_eq_true', decide_eq_true_eq, decide_eq_false_iff_not, beq_iff_eq, bne_iff_ne, ne_eq, Bool.not_eq_eq_eq_not, Bool.not_true, Bool.not_false, beq_eq_false_iff_ne, bne_eq_false_iff_eq, Bool.and_eq_false_imp, Bool.or_eq_false_iff, Bool.cond_false_right, Bool.cond_true_left, Bool.cond_false_left, Bool.cond_true_right, gt_iff_lt, ge_iff_le, true_and] at h; first | exact h | omega) | omega | simpa using h
            rw [if_neg h]
            with_reducible refine WA.skipN ?_
            repeat first | with_reducible refine WN.t ?_ | with_reducible refine WN.b ?_
            refine WA.regionK ty_ok hs fun K hK => ?_
            simp only [go_sem, Nat.reduceAdd, Nat.reduceLT, Nat.reduceLeDiff, Nat.reduceEqDiff, Nat.reduceSub, Nat.reduceMul, Nat.reduceBEq, Nat.reduceBNe, Nat.reducePow, Nat.reduceDiv, Int.reduceLE, Int.reduceLT, Int.reduceToNat, Int.reduceNeg, Int.reduceAdd, Int.reduceSub, Int.reduceEq, reduceIte, reduceCtorEq, UInt8.reduceOfNat, true_and]
            repeat refine And.intro (by first | omega | assumption | (simp; done) | (simp; omega) | (simp +contextual; done) | (simp_all; done) | (simp_all; omega)) ?_
            refine hK _ ?_
            clear hK K
            refine WA.regionK ty_ok hs fun K hK => ?_
            simp only [go_sem, Nat.reduceAdd, Nat.reduceLT, Nat.reduceLeDiff, Nat.reduceEqDiff, Nat.reduceSub, Nat.reduceMul, Nat.reduceBEq, Nat.reduceBNe, Nat.reducePow, Nat.reduceDiv, Int.reduceLE, Int.reduceLT, Int.reduceToNat, Int.reduceNeg, Int.reduceAdd, Int.reduceSub, Int.reduceEq, reduceIte, reduceCtorEq, UInt8.reduceOfNat, true_and]
            repeat refine And.intro (by first | omega | assumption | (simp; done) | (simp; omega) | (simp +contextual; done) | (simp_all; done) | (simp_all; omega)) ?_
            refine hK _ ?_
            clear hK K
            refine WA.retE ty_ok (xs := [.agg [.li 5 (K.map ptA), .lit (.int .i64 N)]]) (ls' := []) (rv := [.cell 6 24]) rfl hX (by decide) (fun _ => rfl) (fun _ _ h => h) ?_
            simp only [go_sem, Nat.reduceAdd, Nat.reduceLT, Nat.reduceLeDiff, Nat.reduceEqDiff, Nat.reduceSub, Nat.reduceMul, Nat.reduceBEq, Nat.reduceBNe, Nat.reducePow, Nat.reduceDiv, Int.reduceLE, Int.reduceLT, Int.reduceToNat, Int.reduceNeg, Int.reduceAdd, Int.reduceSub, Int.reduceEq, reduceIte, reduceCtorEq, UInt8.reduceOfNat, sbT, TrC_pts, take_pts, Tr_pts]
            all_goals (first | done | exact Nat.le_refl _ | (simp; done) | (and_intros <;> first | omega | exact Nat.le_refl _ | (simp; done) | (simp; omega)))
end Go.Proofs.YtgmmdijmlnehlaaDoor
