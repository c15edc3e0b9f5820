import Derived.Test.YtgmmdijmlnehlaaDoorShL
namespace Go.Proofs.YtgmmdijmlnehlaaDoor
open Go.RowKit Go.TravelBase Go.TravelAbs
set_option linter.unusedVariables false
set_option linter.unusedSimpArgs false



















/-! ### The law on trusts that are made of numbers -/
def sgBk : Sg := fun f args ls =>
  match f, args, ls with
  | 9, [], [] => some (.lit (.bool true), [], True)
  | 15, [.by_ d], [] => some (.tup [stoA (dcV d), .lit (.int .i64 (dcE d))], [], d.length ≤ 1000)
  | 13, [.agg [.li es xs, .lit (.int .i64 now)]], [] => some (.tup [.by_ (encS ⟨xs.map unT, now⟩), .lit (.int .i64 (validE ⟨xs.map unT, now⟩))], [], es = 5 ∧ xs = (xs.map unT).map ptA)
  | 17, [.agg [.li es xs, .lit (.int .i64 n)], .agg [.li es' ys, .lit (.int .i64 m)]], [] => some (.lit (.bool (sameS ⟨xs.map unT, n⟩ ⟨ys.map unT, m⟩)), [], (es = 5 ∧ xs = (xs.map unT).map ptA) ∧ (es' = 5 ∧ ys = (ys.map unT).map ptA) ∧ (xs.map unT).length ≤ 1000)
  | 18, [.li 1 xs], [] => some (.lit (.bool (decide ((xs.length : Int) ≤ 80))), [], True)
  | 19, [.li 1 xs], [] => some (stoA (trS (.li 1 xs) 0), [], xs = (xs.map unI).map iA ∧ xs.length ≤ 400 ∧ ∀ y ∈ xs.map unI, -9223372036854775808 ≤ y ∧ y ≤ 9223372036854775807)
  | _, _, _ => none
theorem sgBk_ok : SgOK Tryd.prog sgBk := by
  intro f args ls r ls' vc h hvc
  unfold sgBk at h
  split at h <;> first | (simp only [Option.some.injEq, Prod.mk.injEq] at h; obtain ⟨rfl, rfl, rfl⟩ := h) | cases h
  · exact ⟨(fnOK Tryd.func9 (by decide) rfl), awake_s⟩
  · exact ⟨(fnOK Tryd.func15 (by decide) rfl), decode_s _ hvc⟩
  · obtain ⟨rfl, h2⟩ := hvc
    refine ⟨(fnOK Tryd.func13 (by decide) rfl), ?_⟩
    rename_i xs now
    have := encode_s ⟨xs.map unT, now⟩
    unfold stoA at this
    rw [← h2] at this
    exact this
  · obtain ⟨⟨rfl, h2⟩, ⟨rfl, h3⟩, h4⟩ := hvc
    refine ⟨(fnOK Tryd.func17 (by decide) rfl), ?_⟩
    rename_i xs n ys m
    have := rsameS_s ⟨xs.map unT, n⟩ ⟨ys.map unT, m⟩ h4
    unfold stoA at this
    rw [← h2, ← h3] at this
    exact this
  · exact ⟨(fnOK Tryd.func18 (by decide) rfl), mlight_s _⟩
  · obtain ⟨h2, h3, h4⟩ := hvc
    refine ⟨(fnOK Tryd.func19 (by decide) rfl), ?_⟩
    rename_i xs
    have := trust_s (xs.map unI) (by simpa using h3) h4
    rw [← h2] at this
    exact this
theorem lawBack_s (zs : List Int) (hz : ∀ y ∈ zs, -9223372036854775808 ≤ y ∧ y ≤ 9223372036854775807) : FnS Tryd.prog 6 [.li 1 (zs.map iA)] [] (.lit (.bool true)) [] := by
  have hs := sgBk_ok
  have hT := Tr_ia zs
  have hu := un_ia zs
  have e0 : (((zs.map iA).length : Int) ≤ 80) = (zs.length ≤ 80) := by
    rw [List.length_map]
    exact propext ⟨fun h => by omega, fun h => by omega⟩
  refine FnS.of Tryd.func6 rfl (N := 38) rfl (by simp) (by simp) fun X hX => ?_
  simp only [tmArgs, lentH, Nat.reduceAdd]
  refine WA.regionK ty_ok hs fun K hK => ?_
  simp only [go_sem, Nat.reduceAdd, Nat.reduceLT, Nat.reduceLeDiff, Nat.reduceEqDiff, Nat.reduceSub, Nat.reduceMul, Nat.reduceBEq, Nat.reduceBNe, Nat.reducePow, Nat.reduceDiv, Int.reduceLE, Int.reduceLT, Int.reduceToNat, Int.reduceNeg, Int.reduceAdd, Int.reduceSub, Int.reduceEq, reduceIte, reduceCtorEq, UInt8.reduceOfNat, true_and]
  repeat refine And.intro (by first | omega | assumption | (simp; done) | (simp; omega) | (simp +contextual; done) | (simp_all; done) | (simp_all; omega)) ?_
  refine hK _ ?_
  clear hK K
  refine WA.seq ?_
  refine WA.regionK ty_ok hs fun K hK => ?_
  simp only [go_sem, Nat.reduceAdd, Nat.reduceLT, Nat.reduceLeDiff, Nat.reduceEqDiff, Nat.reduceSub, Nat.reduceMul, Nat.reduceBEq, Nat.reduceBNe, Nat.reducePow, Nat.reduceDiv, Int.reduceLE, Int.reduceLT, Int.reduceToNat, Int.reduceNeg, Int.reduceAdd, Int.reduceSub, Int.reduceEq, reduceIte, reduceCtorEq, UInt8.reduceOfNat, sgBk, hT]
  repeat refine And.intro (by first | omega | assumption | (simp; done) | (simp; omega) | (simp +contextual; done) | (simp_all; done) | (simp_all; omega)) ?_
  refine hK _ ?_
  clear hK K
  refine WA.cond rfl (fun h => ?_) (fun h => ?_)
  ·
    refine WA.regionK ty_ok hs fun K hK => ?_
    simp only [go_sem, Nat.reduceAdd, Nat.reduceLT, Nat.reduceLeDiff, Nat.reduceEqDiff, Nat.reduceSub, Nat.reduceMul, Nat.reduceBEq, Nat.reduceBNe, Nat.reducePow, Nat.reduceDiv, Int.reduceLE, Int.reduceLT, Int.reduceToNat, Int.reduceNeg, Int.reduceAdd, Int.reduceSub, Int.reduceEq, reduceIte, reduceCtorEq, UInt8.reduceOfNat, sgBk]
    repeat refine And.intro (by first | omega | assumption | (simp; done) | (simp; omega) | (simp +contextual; done) | (simp_all; done) | (simp_all; omega)) ?_
    refine hK _ ?_
    clear hK K
    refine WA.retE ty_ok (xs := [.lit (.bool true)]) (ls' := []) (rv := [.tmp 2]) rfl hX (by decide) (fun _ => rfl) (fun _ _ h => h) ?_
    simp only [go_sem, Nat.reduceAdd, Nat.reduceLT, Nat.reduceLeDiff, Nat.reduceEqDiff, Nat.reduceSub, Nat.reduceMul, Nat.reduceBEq, Nat.reduceBNe, Nat.reducePow, Nat.reduceDiv, Int.reduceLE, Int.reduceLT, Int.reduceToNat, Int.reduceNeg, Int.reduceAdd, Int.reduceSub, Int.reduceEq, reduceIte, reduceCtorEq, UInt8.reduceOfNat, sbT]
    all_goals (first | done | exact Nat.le_refl _ | (simp; done) | (and_intros <;> first | omega | exact Nat.le_refl _ | (simp; done) | (simp; omega)))
  ·
    have h : zs.length ≤ 80 := by first | (simp only [Bool.and_eq_true, Bool.or_eq_true, Bool.not_eq_true', decide_eq_true_eq, decide_eq_false_iff_not, beq_iff_eq, bne_iff_ne, ne_eq, Bool.not_eq_eq_eq_not, Bool.not_true, Bool.not_false, beq_eq_false_iff_ne, bne_eq_false_iff_eq, Bool.and_eq_false_imp, Bool.or_eq_false_iff, Bool.cond_false_right, Bool.cond_true_left, Bool.cond_false_left, Bool.cond_true_right, gt_iff_lt, ge_iff_le, true_and] at h; first | exact h | omega) | omega | simpa using h
    have hv := trS_ok (.li 1 (zs.map iA)) 0
    obtain ⟨ho, hl⟩ := trS_enc (.li 1 (zs.map iA)) 0
    obtain ⟨d1, d2⟩ := dc_yes ho
    have hr := sameS_refl (trS (.li 1 (zs.map iA)) 0)
    have hp := (valid_ok hv).1.2
    have hp2 : (trS (.li 1 (zs.map iA)) 0).pts.length ≤ 1000 := by omega
    obtain ⟨l, now, e⟩ : ∃ l now, trS (.li 1 (zs.map iA)) 0 = ⟨l, now⟩ := ⟨_, _, rfl⟩
    have hT2 := Tr_pts l
    have hu2 := un_pts l
    have e2 : stoA ⟨l, now⟩ = .agg [.li 5 (l.map ptA), .lit (.int .i64 now)] := rfl
    rw [e] at hv hl d1 d2 hr hp2
    simp only at hp2
    have hl4 : zs.length ≤ 400 := by omega
    with_reducible refine WA.skipN ?_
    repeat first | with_reducible refine WN.t ?_ | with_reducible refine WN.b ?_
    refine WA.regionK ty_ok hs fun K hK => ?_
    simp only [go_sem, Nat.reduceAdd, Nat.reduceLT, Nat.reduceLeDiff, Nat.reduceEqDiff, Nat.reduceSub, Nat.reduceMul, Nat.reduceBEq, Nat.reduceBNe, Nat.reducePow, Nat.reduceDiv, Int.reduceLE, Int.reduceLT, Int.reduceToNat, Int.reduceNeg, Int.reduceAdd, Int.reduceSub, Int.reduceEq, reduceIte, reduceCtorEq, UInt8.reduceOfNat, sgBk, hT, hu, hz, hl4, List.length_map, e, e2, hT2]
    repeat refine And.intro (by first | omega | assumption | (simp; done) | (simp; omega) | (simp +contextual; done) | (simp_all; done) | (simp_all; omega)) ?_
    refine hK _ ?_
    clear hK K
    refine WA.regionK ty_ok hs fun K hK => ?_
    simp only [go_sem, Nat.reduceAdd, Nat.reduceLT, Nat.reduceLeDiff, Nat.reduceEqDiff, Nat.reduceSub, Nat.reduceMul, Nat.reduceBEq, Nat.reduceBNe, Nat.reducePow, Nat.reduceDiv, Int.reduceLE, Int.reduceLT, Int.reduceToNat, Int.reduceNeg, Int.reduceAdd, Int.reduceSub, Int.reduceEq, reduceIte, reduceCtorEq, UInt8.reduceOfNat, sgBk, hT2, hu2, hv]
    repeat refine And.intro (by first | omega | assumption | (simp; done) | (simp; omega) | (simp +contextual; done) | (simp_all; done) | (simp_all; omega)) ?_
    refine hK _ ?_
    clear hK K
    refine WA.regionK ty_ok hs fun K hK => ?_
    simp only [go_sem, Nat.reduceAdd, Nat.reduceLT, Nat.reduceLeDiff, Nat.reduceEqDiff, Nat.reduceSub, Nat.reduceMul, Nat.reduceBEq, Nat.reduceBNe, Nat.reducePow, Nat.reduceDiv, Int.reduceLE, Int.reduceLT, Int.reduceToNat, Int.reduceNeg, Int.reduceAdd, Int.reduceSub, Int.reduceEq, reduceIte, reduceCtorEq, UInt8.reduceOfNat, sgBk, hl, d1, d2, e2, hT2]
    repeat refine And.intro (by first | omega | assumption | (simp; done) | (simp; omega) | (simp +contextual; done) | (simp_all; done) | (simp_all; omega)) ?_
    refine hK _ ?_
    clear hK K
    refine WA.regionK ty_ok hs fun K hK => ?_
    simp only [go_sem, Nat.reduceAdd, Nat.reduceLT, Nat.reduceLeDiff, Nat.reduceEqDiff, Nat.reduceSub, Nat.reduceMul, Nat.reduceBEq, Nat.reduceBNe, Nat.reducePow, Nat.reduceDiv, Int.reduceLE, Int.reduceLT, Int.reduceToNat, Int.reduceNeg, Int.reduceAdd, Int.reduceSub, Int.reduceEq, reduceIte, reduceCtorEq, UInt8.reduceOfNat, sgBk, hT2, hu2, hr, hp2]
    repeat refine And.intro (by first | omega | assumption | (simp; done) | (simp; omega) | (simp +contextual; done) | (simp_all; done) | (simp_all; omega)) ?_
    refine hK _ ?_
    clear hK K
    refine WA.retE ty_ok (xs := [.lit (.bool true)]) (ls' := []) (rv := [.tmp 2]) rfl hX (by decide) (fun _ => rfl) (fun _ _ h => h) ?_
    simp only [go_sem, Nat.reduceAdd, Nat.reduceLT, Nat.reduceLeDiff, Nat.reduceEqDiff, Nat.reduceSub, Nat.reduceMul, Nat.reduceBEq, Nat.reduceBNe, Nat.reducePow, Nat.reduceDiv, Int.reduceLE, Int.reduceLT, Int.reduceToNat, Int.reduceNeg, Int.reduceAdd, Int.reduceSub, Int.reduceEq, reduceIte, reduceCtorEq, UInt8.reduceOfNat, sbT]
    all_goals (first | done | exact Nat.le_refl _ | (simp; done) | (and_intros <;> first | omega | exact Nat.le_refl _ | (simp; done) | (simp; omega)))
end Go.Proofs.YtgmmdijmlnehlaaDoor
