import Derived.Test.YtgmmdijmlnehlaaDoorShL
namespace Go.Proofs.YtgmmdijmlnehlaaDoor
open Go.RowKit Go.TravelBase Go.TravelAbs
set_option linter.unusedVariables false
set_option linter.unusedSimpArgs false



















/-! ### The law ChipdateNever -/
def sgN1 : Sg := fun f args ls =>
  match f, args, ls with
  | 9, [], [] => some (.lit (.bool true), [], True)
  | 18, [.li 1 xs], [] => some (.lit (.bool (decide ((xs.length : Int) ≤ 80))), [], True)
  | 19, [.li 1 xs], [] => some (stoA (trS (.li 1 xs) 0), [], xs = (xs.map unI).map iA ∧ xs.length ≤ 400 ∧ ∀ y ∈ xs.map unI, -9223372036854775808 ≤ y ∧ y ≤ 9223372036854775807)
  | 22, [.lit (.int .i64 x), .lit (.int .i64 n)], [] => some (.lit (.int .i64 (x % n)), [], (1 ≤ n ∧ n ≤ 4611686018427387904) ∧ -9223372036854775808 ≤ x ∧ x ≤ 9223372036854775807)
  | 23, [.lit (.string s)], [] => some (.lit (.int .i64 (hoP s.data.toList)), [], s.data.toList.length ≤ 1000000)
  | 24, [.agg [.lit (.string a), .lit (.string h), .lit (.int .i64 k), .lit (.int .i64 r), .lit (.int .i64 rt), .lit (.int .i64 fr), .lit (.int .i64 t), .lit (.int .i64 x), .lit (.int .i64 y)]], [] => some (.lit (.int .i64 (checkE ⟨a.data.toList, h.data.toList, k, r, rt, fr, t, x, y⟩)), [], a.data.toList.length ≤ 1000 ∧ h.data.toList.length ≤ 1000)
  | _, _, _ => none
theorem sgN1_ok : SgOK Tryd.prog sgN1 := by
  intro f args ls r ls' vc h hvc
  unfold sgN1 at h
  split at h <;> first | (simp only [Option.some.injEq, Prod.mk.injEq] at h; obtain ⟨rfl, rfl, rfl⟩ := h) | cases h
  · exact ⟨(fnOK Tryd.func9 (by decide) rfl), awake_s⟩
  · exact ⟨(fnOK Tryd.func18 (by decide) rfl), mlight_s _⟩
  · obtain ⟨h2, h3, h4⟩ := hvc
    refine ⟨(fnOK Tryd.func19 (by decide) rfl), ?_⟩
    rename_i xs
    have := trust_s (xs.map unI) (by simpa using h3) h4
    rw [← h2] at this
    exact this
  · exact ⟨(fnOK Tryd.func22 (by decide) rfl), mmod_s _ _ hvc.1.1 hvc.1.2 hvc.2⟩
  · exact ⟨(fnOK Tryd.func23 (by decide) rfl), holder_s _ hvc⟩
  · rename_i a h k r rt fr t x y
    exact ⟨(fnOK Tryd.func24 (by decide) rfl), rcheck_s ⟨a.data.toList, h.data.toList, k, r, rt, fr, t, x, y⟩ (Nat.le_trans hvc.1 (by decide)) (Nat.le_trans hvc.2 (by decide))⟩
def sgN2 : Sg := fun f args ls =>
  match f, args, ls with
  | 11, [.agg [.li es xs, .lit (.int .i64 now)]], [] => some (.lit (.int .i64 (validE ⟨xs.map unT, now⟩)), [], es = 5 ∧ xs = (xs.map unT).map ptA)
  | 20, [.agg [.li es xs, .lit (.int .i64 now)], .agg [.lit (.string h'), .lit (.int .i64 k'), .lit (.int .i64 r'), .lit (.int .i64 rt'), .lit (.int .i64 fr'), .lit (.int .i64 t')], .agg [.lit (.string a), .lit (.string h), .lit (.int .i64 k), .lit (.int .i64 r), .lit (.int .i64 rt), .lit (.int .i64 fr), .lit (.int .i64 t), .lit (.int .i64 x), .lit (.int .i64 y)]], [] => some (stoA (learnS ⟨xs.map unT, now⟩ ⟨h'.data.toList, k', r', rt', fr', t'⟩ ⟨a.data.toList, h.data.toList, k, r, rt, fr, t, x, y⟩), [], es = 5 ∧ xs = (xs.map unT).map ptA ∧ (xs.map unT).length ≤ 10)
  | 17, [.agg [.li es xs, .lit (.int .i64 n)], .agg [.li es' ys, .lit (.int .i64 m)]], [] => some (.lit (.bool (sameS ⟨xs.map unT, n⟩ ⟨ys.map unT, m⟩)), [], (es = 5 ∧ xs = (xs.map unT).map ptA) ∧ (es' = 5 ∧ ys = (ys.map unT).map ptA) ∧ (xs.map unT).length ≤ 1000)
  | _, _, _ => none
theorem sgN2_ok : SgOK Tryd.prog sgN2 := by
  intro f args ls r ls' vc h hvc
  unfold sgN2 at h
  split at h <;> first | (simp only [Option.some.injEq, Prod.mk.injEq] at h; obtain ⟨rfl, rfl, rfl⟩ := h) | cases h
  · obtain ⟨rfl, h2⟩ := hvc
    refine ⟨(fnOK Tryd.func11 (by decide) rfl), ?_⟩
    rename_i xs now
    have := valid_s ⟨xs.map unT, now⟩
    unfold stoA at this
    rw [← h2] at this
    exact this
  · obtain ⟨rfl, h2, h3⟩ := hvc
    refine ⟨(fnOK Tryd.func20 (by decide) rfl), ?_⟩
    rename_i xs now h' k' r' rt' fr' t' a h k r rt fr t x y
    have := learn_s ⟨xs.map unT, now⟩ ⟨h'.data.toList, k', r', rt', fr', t'⟩ ⟨a.data.toList, h.data.toList, k, r, rt, fr, t, x, y⟩ (Nat.le_trans h3 (by decide))
    unfold stoA cnA ctA at this
    rw [← h2] at this
    exact this
  · obtain ⟨⟨rfl, h2⟩, ⟨rfl, h3⟩, h4⟩ := hvc
    refine ⟨(fnOK Tryd.func17 (by decide) rfl), ?_⟩
    rename_i xs n ys m
    have := rsameS_s ⟨xs.map unT, n⟩ ⟨ys.map unT, m⟩ h4
    unfold stoA at this
    rw [← h2, ← h3] at this
    exact this
def hoN (i : Int) : List UInt8 := if i = 0 then R1 else if i = 1 then R2 else if i = 2 then R3 else HO
theorem hoN_name (i : Int) : nameB (hoN i) = true := by
  unfold hoN
  split
  · decide
  · split
    · decide
    · split <;> decide
theorem hoN_len (i : Int) : (hoN i).length ≤ 1000 := by
  unfold hoN
  split
  · decide
  · split
    · decide
    · split <;> decide
def hoC (name role rights from_ days : Int) : Ct := ⟨R1, hoN (name % 4), hoP (hoN (name % 4)), 1 + role % 4, rights % 65536, from_ % 200, from_ % 200 + days % 300, 0, 0⟩
theorem hoC_ok (name role rights from_ days : Int) : checkE (hoC name role rights from_ days) = 0 := by
  have h1 : nameB R1 = true := by decide
  unfold checkE hoC
  simp only [hoN_name, hoP_elt, h1]
  rw [if_neg (by decide), if_neg (by decide), if_neg (by omega), if_neg (by omega), if_neg]
  unfold daysB
  simp only [Bool.and_eq_false_iff, decide_eq_false_iff_not]
  omega
theorem lawNever_s (zs : List Int) (b : Cn) (role rights from_ days name : Int) (hz : ∀ y ∈ zs, -9223372036854775808 ≤ y ∧ y ≤ 9223372036854775807) (hb : -9223372036854775808 ≤ b.rt ∧ b.rt ≤ 9223372036854775807)
    (h2 : -9223372036854775808 ≤ role ∧ role ≤ 9223372036854775807) (h3 : -9223372036854775808 ≤ rights ∧ rights ≤ 9223372036854775807) (h4 : -9223372036854775808 ≤ from_ ∧ from_ ≤ 9223372036854775807) (h5 : -9223372036854775808 ≤ days ∧ days ≤ 9223372036854775807) (h6 : -9223372036854775808 ≤ name ∧ name ≤ 9223372036854775807) :
    FnS Tryd.prog 8 [.li 1 (zs.map iA), cnA b, .lit (.int .i64 role), .lit (.int .i64 rights), .lit (.int .i64 from_), .lit (.int .i64 days), .lit (.int .i64 name)] [] (.lit (.bool true)) [] := by
  obtain ⟨a1, a2, a3, a4, a5, a6⟩ := b
  have hs := sgN1_ok
  have hT := Tr_ia zs
  have hu := un_ia zs
  simp only at hb
  unfold cnA
  refine FnS.of Tryd.func8 rfl (N := 119) rfl (by simp) (by simp) fun X hX => ?_
  simp only [tmArgs, lentH, Nat.reduceAdd]
  refine WA.regionK ty_ok hs fun K hK => ?_
  simp only [go_sem, Nat.reduceAdd, Nat.reduceLT, Nat.reduceLeDiff, Nat.reduceEqDiff, Nat.reduceSub, Nat.reduceMul, Nat.reduceBEq, Nat.reduceBNe, Nat.reducePow, Nat.reduceDiv, Int.reduceLE, Int.reduceLT, Int.reduceToNat, Int.reduceNeg, Int.reduceAdd, Int.reduceSub, Int.reduceEq, reduceIte, reduceCtorEq, UInt8.reduceOfNat, true_and]
  repeat refine And.intro (by first | omega | assumption | (simp; done) | (simp; omega) | (simp +contextual; done) | (simp_all; done) | (simp_all; omega)) ?_
  refine hK _ ?_
  clear hK K
  refine WA.seq ?_
  refine WA.regionK ty_ok hs fun K hK => ?_
  simp only [go_sem, Nat.reduceAdd, Nat.reduceLT, Nat.reduceLeDiff, Nat.reduceEqDiff, Nat.reduceSub, Nat.reduceMul, Nat.reduceBEq, Nat.reduceBNe, Nat.reducePow, Nat.reduceDiv, Int.reduceLE, Int.reduceLT, Int.reduceToNat, Int.reduceNeg, Int.reduceAdd, Int.reduceSub, Int.reduceEq, reduceIte, reduceCtorEq, UInt8.reduceOfNat, sgN1, hT]
  repeat refine And.intro (by first | omega | assumption | (simp; done) | (simp; omega) | (simp +contextual; done) | (simp_all; done) | (simp_all; omega)) ?_
  refine hK _ ?_
  clear hK K
  refine WA.cond rfl (fun h => ?_) (fun h => ?_)
  ·
    refine WA.regionK ty_ok hs fun K hK => ?_
    simp only [go_sem, Nat.reduceAdd, Nat.reduceLT, Nat.reduceLeDiff, Nat.reduceEqDiff, Nat.reduceSub, Nat.reduceMul, Nat.reduceBEq, Nat.reduceBNe, Nat.reducePow, Nat.reduceDiv, Int.reduceLE, Int.reduceLT, Int.reduceToNat, Int.reduceNeg, Int.reduceAdd, Int.reduceSub, Int.reduceEq, reduceIte, reduceCtorEq, UInt8.reduceOfNat, sgN1]
    repeat refine And.intro (by first | omega | assumption | (simp; done) | (simp; omega) | (simp +contextual; done) | (simp_all; done) | (simp_all; omega)) ?_
    refine hK _ ?_
    clear hK K
    refine WA.retE ty_ok (xs := [.lit (.bool true)]) (ls' := []) (rv := [.tmp 14]) rfl hX (by decide) (fun _ => rfl) (fun _ _ h => h) ?_
    simp only [go_sem, Nat.reduceAdd, Nat.reduceLT, Nat.reduceLeDiff, Nat.reduceEqDiff, Nat.reduceSub, Nat.reduceMul, Nat.reduceBEq, Nat.reduceBNe, Nat.reducePow, Nat.reduceDiv, Int.reduceLE, Int.reduceLT, Int.reduceToNat, Int.reduceNeg, Int.reduceAdd, Int.reduceSub, Int.reduceEq, reduceIte, reduceCtorEq, UInt8.reduceOfNat, sbT]
    all_goals (first | done | exact Nat.le_refl _ | (simp; done) | (and_intros <;> first | omega | exact Nat.le_refl _ | (simp; done) | (simp; omega)))
  ·
    have h : zs.length ≤ 80 := by first | (simp only [Bool.and_eq_true, Bool.or_eq_true, Bool.not_eq_true', decide_eq_true_eq, decide_eq_false_iff_not, beq_iff_eq, bne_iff_ne, ne_eq, Bool.not_eq_eq_eq_not, Bool.not_true, Bool.not_false, beq_eq_false_iff_ne, bne_eq_false_iff_eq, Bool.and_eq_false_imp, Bool.or_eq_false_iff, Bool.cond_false_right, Bool.cond_true_left, Bool.cond_false_left, Bool.cond_true_right, gt_iff_lt, ge_iff_le, true_and] at h; first | exact h | omega) | omega | simpa using h
    have hl4 : zs.length ≤ 400 := by omega
    have hv := trS_ok (.li 1 (zs.map iA)) 0
    have hp := (valid_ok hv).1.2
    obtain ⟨l, now, e⟩ : ∃ l now, trS (.li 1 (zs.map iA)) 0 = ⟨l, now⟩ := ⟨_, _, rfl⟩
    rw [e] at hv hp
    simp only at hp
    have hT2 := Tr_pts l
    have hu2 := un_pts l
    have e2 : stoA ⟨l, now⟩ = .agg [.li 5 (l.map ptA), .lit (.int .i64 now)] := rfl
    have hm : 0 ≤ name % 4 ∧ name % 4 < 4 := by omega
    have hg : [AV.lit (.string ⟨#[82, 79, 79, 84, 49]⟩), .lit (.string ⟨#[82, 79, 79, 84, 50]⟩), .lit (.string ⟨#[82, 79, 79, 84, 51]⟩), .lit (.string ⟨#[72, 79, 77, 69, 49]⟩)].getD (name % 4).toNat .any = .lit (.string (strB (hoN (name % 4)))) := by
      have : name % 4 = 0 ∨ name % 4 = 1 ∨ name % 4 = 2 ∨ name % 4 = 3 := by omega
      rcases this with q | q | q | q <;> rw [q] <;> rfl
    with_reducible refine WA.skipN ?_
    repeat first | with_reducible refine WN.t ?_ | with_reducible refine WN.b ?_
    refine WA.regionK ty_ok hs fun K hK => ?_
    simp only [go_sem, Nat.reduceAdd, Nat.reduceLT, Nat.reduceLeDiff, Nat.reduceEqDiff, Nat.reduceSub, Nat.reduceMul, Nat.reduceBEq, Nat.reduceBNe, Nat.reducePow, Nat.reduceDiv, Int.reduceLE, Int.reduceLT, Int.reduceToNat, Int.reduceNeg, Int.reduceAdd, Int.reduceSub, Int.reduceEq, reduceIte, reduceCtorEq, UInt8.reduceOfNat, sgN1, hT, hu, hz, hl4, List.length_map, e, e2, hT2]
    repeat refine And.intro (by first | omega | assumption | (simp; done) | (simp; omega) | (simp +contextual; done) | (simp_all; done) | (simp_all; omega)) ?_
    refine hK _ ?_
    clear hK K
    have a1' : (ByteArray.mk #[82, 79, 79, 84, 49]).data.toList = R1 := rfl
    have hln := hoN_len (name % 4)
    have hln2 : (hoN (name % 4)).length ≤ 1000000 := Nat.le_trans hln (by decide)
    have hr1 : R1.length ≤ 1000 := by decide
    have hc := hoC_ok name role rights from_ days
    have hC : (⟨[82, 79, 79, 84, 49], hoN (name % 4), hoP (hoN (name % 4)), 1 + role % 4, rights % 65536, from_ % 200, from_ % 200 + days % 300, 0, 0⟩ : Ct) = hoC name role rights from_ days := rfl
    have hB : (⟨a1, a2, a3, a4, a5, a6⟩ : Cn).rt = a4 := rfl
    have hv3 := learn_valid (b := ⟨a1, a2, a3, a4, a5, a6⟩) hv hc
    have ht3 := learn_twice (b := ⟨a1, a2, a3, a4, a5, a6⟩) hv hc
    have hn3 := learn_ge ⟨l, now⟩ ⟨a1, a2, a3, a4, a5, a6⟩ (hoC name role rights from_ days)
    have hp3 := learn_pts (b := ⟨a1, a2, a3, a4, a5, a6⟩) (c := hoC name role rights from_ days) hv
    have hp4 := (valid_ok hv3).1.2
    obtain ⟨k, nw, e3⟩ : ∃ k nw, learnS ⟨l, now⟩ ⟨a1, a2, a3, a4, a5, a6⟩ (hoC name role rights from_ days) = ⟨k, nw⟩ := ⟨_, _, rfl⟩
    rw [e3] at hv3 ht3 hn3 hp3 hp4
    simp only at hn3 hp3 hp4
    have hT3 := Tr_pts k
    have hu3 := un_pts k
    have e4 : stoA ⟨k, nw⟩ = .agg [.li 5 (k.map ptA), .lit (.int .i64 nw)] := rfl
    have hr := sameS_refl ⟨k, nw⟩
    have hl10 : l.length ≤ 10 := by omega
    have hk10 : k.length ≤ 10 := by omega
    have hk1000 : k.length ≤ 1000 := by omega
    have hlt : ¬ nw < now := by omega
    refine WA.regionK ty_ok hs fun K hK => ?_
    simp only [go_sem, Nat.reduceAdd, Nat.reduceLT, Nat.reduceLeDiff, Nat.reduceEqDiff, Nat.reduceSub, Nat.reduceMul, Nat.reduceBEq, Nat.reduceBNe, Nat.reducePow, Nat.reduceDiv, Int.reduceLE, Int.reduceLT, Int.reduceToNat, Int.reduceNeg, Int.reduceAdd, Int.reduceSub, Int.reduceEq, reduceIte, reduceCtorEq, UInt8.reduceOfNat, sgN1, hg]
    repeat refine And.intro (by first | omega | assumption | (simp; done) | (simp; omega) | (simp +contextual; done) | (simp_all; done) | (simp_all; omega)) ?_
    refine hK _ ?_
    clear hK K
    refine WA.regionK ty_ok hs fun K hK => ?_
    simp only [go_sem, Nat.reduceAdd, Nat.reduceLT, Nat.reduceLeDiff, Nat.reduceEqDiff, Nat.reduceSub, Nat.reduceMul, Nat.reduceBEq, Nat.reduceBNe, Nat.reducePow, Nat.reduceDiv, Int.reduceLE, Int.reduceLT, Int.reduceToNat, Int.reduceNeg, Int.reduceAdd, Int.reduceSub, Int.reduceEq, reduceIte, reduceCtorEq, UInt8.reduceOfNat, sgN1, strB_list, hln2]
    repeat refine And.intro (by first | omega | assumption | (simp; done) | (simp; omega) | (simp +contextual; done) | (simp_all; done) | (simp_all; omega)) ?_
    refine hK _ ?_
    clear hK K
    refine WA.drawnH mixed_ ty_ok hs (tbl := [[], [0], [], [2], [0, 1, 2, 3], [0, 1, 2, 3, 4], [0, 1, 2, 3, 4, 5]]) (nb := [1, 3, 6]) (hk := [[], [], [], [], [], [], []]) (by kernel_rfl) fun K hK => ?_
    simp only [go_sem, Nat.reduceAdd, Nat.reduceLT, Nat.reduceLeDiff, Nat.reduceEqDiff, Nat.reduceSub, Nat.reduceMul, Nat.reduceBEq, Nat.reduceBNe, Nat.reducePow, Nat.reduceDiv, Int.reduceLE, Int.reduceLT, Int.reduceToNat, Int.reduceNeg, Int.reduceAdd, Int.reduceSub, Int.reduceEq, reduceIte, reduceCtorEq, UInt8.reduceOfNat, sgN1]
    repeat refine And.intro (by first | omega | assumption | (simp; done) | (simp; omega) | (simp +contextual; done) | (simp_all; done) | (simp_all; omega)) ?_
    refine hK _ ?_
    clear hK K
    refine WA.seq ?_
    refine WA.regionK ty_ok hs fun K hK => ?_
    simp only [go_sem, Nat.reduceAdd, Nat.reduceLT, Nat.reduceLeDiff, Nat.reduceEqDiff, Nat.reduceSub, Nat.reduceMul, Nat.reduceBEq, Nat.reduceBNe, Nat.reducePow, Nat.reduceDiv, Int.reduceLE, Int.reduceLT, Int.reduceToNat, Int.reduceNeg, Int.reduceAdd, Int.reduceSub, Int.reduceEq, reduceIte, reduceCtorEq, UInt8.reduceOfNat, sgN1, strB_list, hln, hC, hc]
    repeat refine And.intro (by first | omega | assumption | (simp; done) | (simp; omega) | (simp +contextual; done) | (simp_all; done) | (simp_all; omega)) ?_
    refine hK _ ?_
    clear hK K
    refine WA.cond rfl (fun h => absurd h (by decide)) (fun h => ?_)
    with_reducible refine WA.skipN ?_
    repeat first | with_reducible refine WN.t ?_ | with_reducible refine WN.b ?_
    have hs := sgN2_ok
    refine WA.regionK ty_ok hs fun K hK => ?_
    simp only [go_sem, Nat.reduceAdd, Nat.reduceLT, Nat.reduceLeDiff, Nat.reduceEqDiff, Nat.reduceSub, Nat.reduceMul, Nat.reduceBEq, Nat.reduceBNe, Nat.reducePow, Nat.reduceDiv, Int.reduceLE, Int.reduceLT, Int.reduceToNat, Int.reduceNeg, Int.reduceAdd, Int.reduceSub, Int.reduceEq, reduceIte, reduceCtorEq, UInt8.reduceOfNat, sgN2, hT2, hu2, strB_list, hC, hl10, e3, e4, hT3]
    repeat refine And.intro (by first | omega | assumption | (simp; done) | (simp; omega) | (simp +contextual; done) | (simp_all; done) | (simp_all; omega)) ?_
    refine hK _ ?_
    clear hK K
    refine WA.seq ?_
    have z0 : ((0 : Int) != 0) = false := rfl
    refine WA.drawnH mixed_ ty_ok hs (tbl := [[], [0], [], [2], [0, 1, 2, 3], [0, 1, 2, 3, 4], [0, 1, 2, 3, 4, 5], [0, 1, 2, 3, 4, 5, 6], [0, 1, 2, 3, 4, 5, 6, 7], [0, 1, 2, 3, 4, 5, 6, 7, 8], [0, 1, 2, 3, 4, 5, 6, 7, 8, 9], [0, 1, 2, 3, 4, 5, 6, 7, 8, 9, 10], [0, 1, 2, 3, 4, 5, 6, 7, 8, 9, 10], [0, 1, 2, 3, 4, 5, 6, 7, 8, 9, 10], [0, 1, 2, 3, 4, 5, 6, 7, 8, 9, 10, 11, 12, 13], [0, 1, 2, 3, 4, 5, 6, 7, 8, 9, 10], [0, 1, 2, 3, 4, 5, 6, 7, 8, 9, 10, 11, 12, 13, 14, 15], [0, 1, 2, 3, 4, 5, 6, 7, 8, 9, 10, 11, 12, 13, 14, 15, 16], [0, 1, 2, 3, 4, 5, 6, 7, 8, 9, 10, 11, 12, 13, 14, 15, 16, 17]]) (nb := [1, 3, 6, 7, 11, 12, 13, 14, 15, 16]) (hk := [[], [], [], [], [], [], [], [], [], [], [], [], [], [], [], [], [], [], []]) (by kernel_rfl) fun K hK => ?_
    simp only [go_sem, Nat.reduceAdd, Nat.reduceLT, Nat.reduceLeDiff, Nat.reduceEqDiff, Nat.reduceSub, Nat.reduceMul, Nat.reduceBEq, Nat.reduceBNe, Nat.reducePow, Nat.reduceDiv, Int.reduceLE, Int.reduceLT, Int.reduceToNat, Int.reduceNeg, Int.reduceAdd, Int.reduceSub, Int.reduceEq, reduceIte, reduceCtorEq, UInt8.reduceOfNat, sgN2, hT2, hu2, hT3, hu3, strB_list, hC, hk10, hk1000, ht3, e4, hv3, hlt, hr, z0]
    repeat refine And.intro (by first | omega | assumption | (simp; done) | (simp; omega) | (simp +contextual; done) | (simp_all; done) | (simp_all; omega)) ?_
    refine hK _ ?_
    clear hK K
    refine WA.cond rfl (fun h => absurd h (by decide)) (fun h => ?_)
    with_reducible refine WA.skipN ?_
    repeat first | with_reducible refine WN.t ?_ | with_reducible refine WN.b ?_
    clear ht3 hv3 hv hc
    refine WA.seq ?_
    refine WA.regionK ty_ok hs fun K hK => ?_
    simp only [go_sem, Nat.reduceAdd, Nat.reduceLT, Nat.reduceLeDiff, Nat.reduceEqDiff, Nat.reduceSub, Nat.reduceMul, Nat.reduceBEq, Nat.reduceBNe, Nat.reducePow, Nat.reduceDiv, Int.reduceLE, Int.reduceLT, Int.reduceToNat, Int.reduceNeg, Int.reduceAdd, Int.reduceSub, Int.reduceEq, reduceIte, reduceCtorEq, UInt8.reduceOfNat, true_and]
    repeat refine And.intro (by first | omega | assumption | (simp; done) | (simp; omega) | (simp +contextual; done) | (simp_all; done) | (simp_all; omega)) ?_
    refine hK _ ?_
    clear hK K
    refine WA.block ?_
    refine WA.loopW hX (fun k => k) ((fun (i : Nat) => ⟨[(8, .ptr 2000 0 0), (15, .ptr 2056 0 0), (18, .ptr 2336 0 0), (19, .lit (.int .i64 (i : Nat)))], [(2336, ⟨.li 2 [.agg [.li 5 (k.map ptA), .lit (.int .i64 nw)]], 0, false⟩), (2056, ⟨.li 2 [.agg [.li 5 (l.map ptA), .lit (.int .i64 now)]], 0, false⟩), (2000, ⟨.li 6 [.agg [.lit (.string (strB a1)), .lit (.int .i64 a2), .lit (.int .i64 a3), .lit (.int .i64 a4), .lit (.int .i64 a5), .lit (.int .i64 a6)]], 0, false⟩)], 4000, 119⟩ : _ → St)) (fun i => k.length - i) (fun i => i ≤ k.length) (i0 := 0) (Nat.zero_le _) (by simp only [go_sem, Int.natCast_add, Nat.reduceAdd, Nat.reduceLT, Nat.reduceLeDiff, Nat.reduceEqDiff, Nat.reduceSub, Nat.reduceMul, Nat.reduceBEq, Nat.reduceBNe, Nat.reducePow, Nat.reduceDiv, Int.reduceLE, Int.reduceLT, Int.reduceToNat, Int.reduceNeg, Int.reduceAdd, Int.reduceSub, Int.reduceEq, reduceIte, reduceCtorEq, UInt8.reduceOfNat, hT2, hT3, Int.natCast_zero] <;> (try and_intros) <;> (try omega)) fun i hi => ?_
    refine WA.seq ?_
    refine WA.regionK ty_ok hs fun K hK => ?_
    simp only [go_sem, Nat.reduceAdd, Nat.reduceLT, Nat.reduceLeDiff, Nat.reduceEqDiff, Nat.reduceSub, Nat.reduceMul, Nat.reduceBEq, Nat.reduceBNe, Nat.reducePow, Nat.reduceDiv, Int.reduceLE, Int.reduceLT, Int.reduceToNat, Int.reduceNeg, Int.reduceAdd, Int.reduceSub, Int.reduceEq, reduceIte, reduceCtorEq, UInt8.reduceOfNat, hT3, List.length_map]
    repeat refine And.intro (by first | omega | assumption | (simp; done) | (simp; omega) | (simp +contextual; done) | (simp_all; done) | (simp_all; omega)) ?_
    refine hK _ ?_
    clear hK K
    refine WA.cond rfl (fun h => ?_) (fun h => ?_)
    ·
      have h : i < k.length := by first | (simp only [Bool.and_eq_true, Bool.or_eq_true, Bool.not_eq_true', decide_eq_true_eq, decide_eq_false_iff_not, beq_iff_eq, bne_iff_ne, ne_eq, Bool.not_eq_eq_eq_not, Bool.not_true, Bool.not_false, beq_eq_false_iff_ne, bne_eq_false_iff_eq, Bool.and_eq_false_imp, Bool.or_eq_false_iff, Bool.cond_false_right, Bool.cond_true_left, Bool.cond_false_left, Bool.cond_true_right, gt_iff_lt, ge_iff_le, true_and] at h; first | exact h | omega) | omega | simpa using h
      have g := pt_at h
      have hip := hp3 _ (List.getElem_mem h)
      have hi2 := h
      with_reducible refine WA.skipN ?_
      repeat first | with_reducible refine WN.t ?_ | with_reducible refine WN.b ?_
      refine WA.seq ?_
      refine WA.block ?_
      refine WA.regionK ty_ok hs fun K hK => ?_
      simp only [go_sem, Nat.reduceAdd, Nat.reduceLT, Nat.reduceLeDiff, Nat.reduceEqDiff, Nat.reduceSub, Nat.reduceMul, Nat.reduceBEq, Nat.reduceBNe, Nat.reducePow, Nat.reduceDiv, Int.reduceLE, Int.reduceLT, Int.reduceToNat, Int.reduceNeg, Int.reduceAdd, Int.reduceSub, Int.reduceEq, reduceIte, reduceCtorEq, UInt8.reduceOfNat, true_and]
      repeat refine And.intro (by first | omega | assumption | (simp; done) | (simp; omega) | (simp +contextual; done) | (simp_all; done) | (simp_all; omega)) ?_
      refine hK _ ?_
      clear hK K
      refine WA.seq ?_
      refine WA.regionK ty_ok hs fun K hK => ?_
      simp only [go_sem, Nat.reduceAdd, Nat.reduceLT, Nat.reduceLeDiff, Nat.reduceEqDiff, Nat.reduceSub, Nat.reduceMul, Nat.reduceBEq, Nat.reduceBNe, Nat.reducePow, Nat.reduceDiv, Int.reduceLE, Int.reduceLT, Int.reduceToNat, Int.reduceNeg, Int.reduceAdd, Int.reduceSub, Int.reduceEq, reduceIte, reduceCtorEq, UInt8.reduceOfNat, true_and]
      repeat refine And.intro (by first | omega | assumption | (simp; done) | (simp; omega) | (simp +contextual; done) | (simp_all; done) | (simp_all; omega)) ?_
      refine hK _ ?_
      clear hK K
      refine WA.block ?_
      refine WA.loopW hX (fun k => k) ((fun (x : Nat × Bool) => ⟨[(8, .ptr 2000 0 0), (15, .ptr 2056 0 0), (18, .ptr 2336 0 0), (19, .lit (.int .i64 (i : Nat))), (20, .lit (.bool x.2)), (21, .lit (.int .i64 (x.1 : Nat)))], [(2336, ⟨.li 2 [.agg [.li 5 (k.map ptA), .lit (.int .i64 nw)]], 0, false⟩), (2056, ⟨.li 2 [.agg [.li 5 (l.map ptA), .lit (.int .i64 now)]], 0, false⟩), (2000, ⟨.li 6 [.agg [.lit (.string (strB a1)), .lit (.int .i64 a2), .lit (.int .i64 a3), .lit (.int .i64 a4), .lit (.int .i64 a5), .lit (.int .i64 a6)]], 0, false⟩)], 4000, 119⟩ : _ → St)) (fun x => l.length - x.1) (fun x => x.1 ≤ l.length ∧ (x.2 = false → ∀ q (hq : q < l.length), q < x.1 → ptQ l[q] k[i] = false)) (i0 := (0, false)) (⟨Nat.zero_le _, fun _ q _ hq => absurd hq (Nat.not_lt_zero q)⟩) (by simp only [go_sem, Int.natCast_add, Nat.reduceAdd, Nat.reduceLT, Nat.reduceLeDiff, Nat.reduceEqDiff, Nat.reduceSub, Nat.reduceMul, Nat.reduceBEq, Nat.reduceBNe, Nat.reducePow, Nat.reduceDiv, Int.reduceLE, Int.reduceLT, Int.reduceToNat, Int.reduceNeg, Int.reduceAdd, Int.reduceSub, Int.reduceEq, reduceIte, reduceCtorEq, UInt8.reduceOfNat, hT2, hT3, Int.natCast_zero] <;> (try and_intros) <;> (try omega)) fun ⟨j, o⟩ hj => ?_
      obtain ⟨hj1, hj2⟩ := hj
      simp only at hj1 hj2
      refine WA.seq ?_
      refine WA.regionK ty_ok hs fun K hK => ?_
      simp only [go_sem, Nat.reduceAdd, Nat.reduceLT, Nat.reduceLeDiff, Nat.reduceEqDiff, Nat.reduceSub, Nat.reduceMul, Nat.reduceBEq, Nat.reduceBNe, Nat.reducePow, Nat.reduceDiv, Int.reduceLE, Int.reduceLT, Int.reduceToNat, Int.reduceNeg, Int.reduceAdd, Int.reduceSub, Int.reduceEq, reduceIte, reduceCtorEq, UInt8.reduceOfNat, hT2, List.length_map]
      repeat refine And.intro (by first | omega | assumption | (simp; done) | (simp; omega) | (simp +contextual; done) | (simp_all; done) | (simp_all; omega)) ?_
      refine hK _ ?_
      clear hK K
      refine WA.cond rfl (fun h => ?_) (fun h => ?_)
      ·
        have h : j < l.length := by first | (simp only [Bool.and_eq_true, Bool.or_eq_true, Bool.not_eq_true', decide_eq_true_eq, decide_eq_false_iff_not, beq_iff_eq, bne_iff_ne, ne_eq, Bool.not_eq_eq_eq_not, Bool.not_true, Bool.not_false, beq_eq_false_iff_ne, bne_eq_false_iff_eq, Bool.and_eq_false_imp, Bool.or_eq_false_iff, Bool.cond_false_right, Bool.cond_true_left, Bool.cond_false_left, Bool.cond_true_right, gt_iff_lt, ge_iff_le, true_and] at h; first | exact h | omega) | omega | simpa using h
        have g2 := pt_at h
        with_reducible refine WA.skipN ?_
        repeat first | with_reducible refine WN.t ?_ | with_reducible refine WN.b ?_
        refine WA.seq ?_
        refine WA.block ?_
        cases o with
        | true =>
          refine WA.drawn2 mixed_ ty_ok hs (tbl := [[], [0], [0, 1], [0, 1, 2], [0, 1], [0, 1, 2, 3, 4], [0, 1, 2, 3, 4, 5], [0, 1], [0, 1, 7], [0, 1], [0, 1, 7, 8, 9], [0, 1, 7, 8, 9, 10], [0, 1, 2, 3, 4, 5, 6, 7, 8, 9, 10, 11], [0, 1, 2, 3, 4, 5, 6, 7, 8, 9, 10, 11, 12], [0, 1, 2, 3, 4, 5, 6, 7, 8, 9, 10, 11, 12, 13]]) (nb := [3, 6, 8, 11]) (hk := [[], [], [], [], [], [], [], [], [], [], [], [], [], [], []]) (by kernel_rfl) fun K hK => ?_
          simp only [go_sem, Nat.reduceAdd, Nat.reduceLT, Nat.reduceLeDiff, Nat.reduceEqDiff, Nat.reduceSub, Nat.reduceMul, Nat.reduceBEq, Nat.reduceBNe, Nat.reducePow, Nat.reduceDiv, Int.reduceLE, Int.reduceLT, Int.reduceToNat, Int.reduceNeg, Int.reduceAdd, Int.reduceSub, Int.reduceEq, reduceIte, reduceCtorEq, UInt8.reduceOfNat, g, g2, hT2, hT3, List.length_map, strB_toList]
          repeat refine And.intro (by first | omega | assumption | (simp; done) | (simp; omega) | (simp +contextual; done) | (simp_all; done) | (simp_all; omega)) ?_
          with_reducible refine hK _ (WN.mk ?_)
          clear hK K
          repeat first | with_reducible refine WN.t ?_ | with_reducible refine WN.b ?_
          refine WA.regionE ty_ok hs fun K hK => ?_
          simp only [go_sem, Nat.reduceAdd, Nat.reduceLT, Nat.reduceLeDiff, Nat.reduceEqDiff, Nat.reduceSub, Nat.reduceMul, Nat.reduceBEq, Nat.reduceBNe, Nat.reducePow, Nat.reduceDiv, Int.reduceLE, Int.reduceLT, Int.reduceToNat, Int.reduceNeg, Int.reduceAdd, Int.reduceSub, Int.reduceEq, reduceIte, reduceCtorEq, UInt8.reduceOfNat, true_and]
          repeat refine And.intro (by first | omega | assumption | (simp; done) | (simp; omega) | (simp +contextual; done) | (simp_all; done) | (simp_all; omega)) ?_
          refine hK _ (roundE hX (fun k => k) (j := (j + 1, true)) (⟨by omega, fun q => absurd q Bool.noConfusion⟩) (by first | omega | (dsimp only; omega) | (simp; omega)) (by simp only [go_sem, Int.natCast_add, Nat.reduceAdd, Nat.reduceLT, Nat.reduceLeDiff, Nat.reduceEqDiff, Nat.reduceSub, Nat.reduceMul, Nat.reduceBEq, Nat.reduceBNe, Nat.reducePow, Nat.reduceDiv, Int.reduceLE, Int.reduceLT, Int.reduceToNat, Int.reduceNeg, Int.reduceAdd, Int.reduceSub, Int.reduceEq, reduceIte, reduceCtorEq, UInt8.reduceOfNat, hT2, hT3] <;> (try and_intros) <;> (try omega)))
        | false =>
          have hj3 := hj2 rfl
          have e9 : (l[j].h == k[i].h && (l[j].key == k[i].key && (l[j].rt == k[i].rt && (l[j].fr == k[i].fr && l[j].til == k[i].til)))) = ptQ l[j] k[i] := rfl
          refine WA.drawn2 mixed_ ty_ok hs (tbl := [[], [0], [0, 1], [0, 1, 2], [0, 1], [0, 1, 2, 3, 4], [0, 1, 2, 3, 4, 5], [0, 1], [0, 1, 7], [0, 1], [0, 1, 7, 8, 9], [0, 1, 7, 8, 9, 10], [0, 1, 2, 3, 4, 5, 6, 7, 8, 9, 10, 11], [0, 1, 2, 3, 4, 5, 6, 7, 8, 9, 10, 11, 12], [0, 1, 2, 3, 4, 5, 6, 7, 8, 9, 10, 11, 12, 13]]) (nb := [3, 6, 8, 11]) (hk := [[], [], [], [], [], [], [], [], [], [], [], [], [], [], []]) (by kernel_rfl) fun K hK => ?_
          simp only [go_sem, Nat.reduceAdd, Nat.reduceLT, Nat.reduceLeDiff, Nat.reduceEqDiff, Nat.reduceSub, Nat.reduceMul, Nat.reduceBEq, Nat.reduceBNe, Nat.reducePow, Nat.reduceDiv, Int.reduceLE, Int.reduceLT, Int.reduceToNat, Int.reduceNeg, Int.reduceAdd, Int.reduceSub, Int.reduceEq, reduceIte, reduceCtorEq, UInt8.reduceOfNat, g, g2, hT2, hT3, List.length_map, strB_toList, e9]
          repeat refine And.intro (by first | omega | assumption | (simp; done) | (simp; omega) | (simp +contextual; done) | (simp_all; done) | (simp_all; omega)) ?_
          with_reducible refine hK _ (WN.mk ?_)
          clear hK K
          repeat first | with_reducible refine WN.t ?_ | with_reducible refine WN.b ?_
          refine WA.regionE ty_ok hs fun K hK => ?_
          simp only [go_sem, Nat.reduceAdd, Nat.reduceLT, Nat.reduceLeDiff, Nat.reduceEqDiff, Nat.reduceSub, Nat.reduceMul, Nat.reduceBEq, Nat.reduceBNe, Nat.reducePow, Nat.reduceDiv, Int.reduceLE, Int.reduceLT, Int.reduceToNat, Int.reduceNeg, Int.reduceAdd, Int.reduceSub, Int.reduceEq, reduceIte, reduceCtorEq, UInt8.reduceOfNat, true_and]
          repeat refine And.intro (by first | omega | assumption | (simp; done) | (simp; omega) | (simp +contextual; done) | (simp_all; done) | (simp_all; omega)) ?_
          refine hK _ (roundE hX (fun k => k) (j := (j + 1, ptQ l[j] k[i])) (⟨by omega, fun hq q h1 h2 => by rcases Nat.lt_succ_iff_lt_or_eq.1 h2 with h3 | rfl; exact hj3 q h1 h3; exact hq⟩) (by first | omega | (dsimp only; omega) | (simp; omega)) (by simp only [go_sem, Int.natCast_add, Nat.reduceAdd, Nat.reduceLT, Nat.reduceLeDiff, Nat.reduceEqDiff, Nat.reduceSub, Nat.reduceMul, Nat.reduceBEq, Nat.reduceBNe, Nat.reducePow, Nat.reduceDiv, Int.reduceLE, Int.reduceLT, Int.reduceToNat, Int.reduceNeg, Int.reduceAdd, Int.reduceSub, Int.reduceEq, reduceIte, reduceCtorEq, UInt8.reduceOfNat, hT2, hT3] <;> (try and_intros) <;> (try omega)))
      ·
        have h : ¬ j < l.length := by first | (simp only [Bool.and_eq_true, Bool.or_eq_true, Bool.not_eq_true', decide_eq_true_eq, decide_eq_false_iff_not, beq_iff_eq, bne_iff_ne, ne_eq, Bool.not_eq_eq_eq_not, Bool.not_true, Bool.not_false, beq_eq_false_iff_ne, bne_eq_false_iff_eq, Bool.and_eq_false_imp, Bool.or_eq_false_iff, Bool.cond_false_right, Bool.cond_true_left, Bool.cond_false_left, Bool.cond_true_right, gt_iff_lt, ge_iff_le, true_and] at h; first | exact h | omega) | omega | simpa using h
        obtain rfl : j = l.length := by omega
        with_reducible refine WA.exitX ?_
        repeat first | with_reducible refine WX.b ?_ | with_reducible refine WX.t ?_ | (with_reducible refine WX.n ?hne ?_; case hne => rfl)
        cases o with
        | true =>
          refine WA.drawnH mixed_ ty_ok hs (tbl := [[], [0], [0, 1], [0, 1, 2], [0, 1, 2, 3], [0, 1, 2], [0, 1, 2, 3, 4, 5], [0, 1, 2, 3, 4, 5, 6], [0, 1, 2, 3, 4, 5, 6, 7], [0, 1, 2], [0, 1, 2, 9], [0, 1, 2, 3, 4, 5, 6, 7, 8, 9, 10], [0, 1, 2, 3, 4, 5, 6, 7, 8, 9, 10, 11], [0, 1, 2, 3, 4, 5, 6, 7, 8, 9, 10, 11, 12]]) (nb := [4, 8, 10]) (hk := [[], [], [], [], [], [], [], [], [], [], [], [], [], []]) (by kernel_rfl) fun K hK => ?_
          simp only [go_sem, Nat.reduceAdd, Nat.reduceLT, Nat.reduceLeDiff, Nat.reduceEqDiff, Nat.reduceSub, Nat.reduceMul, Nat.reduceBEq, Nat.reduceBNe, Nat.reducePow, Nat.reduceDiv, Int.reduceLE, Int.reduceLT, Int.reduceToNat, Int.reduceNeg, Int.reduceAdd, Int.reduceSub, Int.reduceEq, reduceIte, reduceCtorEq, UInt8.reduceOfNat, g, hT2, hT3, List.length_map]
          repeat refine And.intro (by first | omega | assumption | (simp; done) | (simp; omega) | (simp +contextual; done) | (simp_all; done) | (simp_all; omega)) ?_
          refine hK _ ?_
          clear hK K
          refine WA.cond rfl (fun h => absurd h (by decide)) (fun h => ?_)
          with_reducible refine WA.skipN ?_
          repeat first | with_reducible refine WN.t ?_ | with_reducible refine WN.b ?_
          refine WA.regionE ty_ok hs fun K hK => ?_
          simp only [go_sem, Nat.reduceAdd, Nat.reduceLT, Nat.reduceLeDiff, Nat.reduceEqDiff, Nat.reduceSub, Nat.reduceMul, Nat.reduceBEq, Nat.reduceBNe, Nat.reducePow, Nat.reduceDiv, Int.reduceLE, Int.reduceLT, Int.reduceToNat, Int.reduceNeg, Int.reduceAdd, Int.reduceSub, Int.reduceEq, reduceIte, reduceCtorEq, UInt8.reduceOfNat, true_and]
          repeat refine And.intro (by first | omega | assumption | (simp; done) | (simp; omega) | (simp +contextual; done) | (simp_all; done) | (simp_all; omega)) ?_
          refine hK _ (roundE hX (fun k => k) (j := i + 1) (by omega) (by first | omega | (dsimp only; omega) | (simp; omega)) (by simp only [go_sem, Int.natCast_add, Nat.reduceAdd, Nat.reduceLT, Nat.reduceLeDiff, Nat.reduceEqDiff, Nat.reduceSub, Nat.reduceMul, Nat.reduceBEq, Nat.reduceBNe, Nat.reducePow, Nat.reduceDiv, Int.reduceLE, Int.reduceLT, Int.reduceToNat, Int.reduceNeg, Int.reduceAdd, Int.reduceSub, Int.reduceEq, reduceIte, reduceCtorEq, UInt8.reduceOfNat, hT2, hT3] <;> (try and_intros) <;> (try omega)))
        | false =>
          have hz : bits .andNot .i64 k[i].rt a4 = 0 := by
            rcases hip with h3 | h3
            · obtain ⟨q, hq, h4⟩ := List.mem_iff_getElem.1 h3
              have := hj2 rfl q hq hq
              rw [h4, ptQ_refl] at this
              cases this
            · exact h3
          refine WA.drawnH mixed_ ty_ok hs (tbl := [[], [0], [0, 1], [0, 1, 2], [0, 1, 2, 3], [0, 1, 2], [0, 1, 2, 3, 4, 5], [0, 1, 2, 3, 4, 5, 6], [0, 1, 2, 3, 4, 5, 6, 7], [0, 1, 2], [0, 1, 2, 9], [0, 1, 2, 3, 4, 5, 6, 7, 8, 9, 10], [0, 1, 2, 3, 4, 5, 6, 7, 8, 9, 10, 11], [0, 1, 2, 3, 4, 5, 6, 7, 8, 9, 10, 11, 12]]) (nb := [4, 8, 10]) (hk := [[], [], [], [], [], [], [], [], [], [], [], [], [], []]) (by kernel_rfl) fun K hK => ?_
          simp only [go_sem, Nat.reduceAdd, Nat.reduceLT, Nat.reduceLeDiff, Nat.reduceEqDiff, Nat.reduceSub, Nat.reduceMul, Nat.reduceBEq, Nat.reduceBNe, Nat.reducePow, Nat.reduceDiv, Int.reduceLE, Int.reduceLT, Int.reduceToNat, Int.reduceNeg, Int.reduceAdd, Int.reduceSub, Int.reduceEq, reduceIte, reduceCtorEq, UInt8.reduceOfNat, g, hT2, hT3, List.length_map, hz, z0]
          repeat refine And.intro (by first | omega | assumption | (simp; done) | (simp; omega) | (simp +contextual; done) | (simp_all; done) | (simp_all; omega)) ?_
          refine hK _ ?_
          clear hK K
          refine WA.cond rfl (fun h => absurd h (by decide)) (fun h => ?_)
          with_reducible refine WA.skipN ?_
          repeat first | with_reducible refine WN.t ?_ | with_reducible refine WN.b ?_
          refine WA.regionE ty_ok hs fun K hK => ?_
          simp only [go_sem, Nat.reduceAdd, Nat.reduceLT, Nat.reduceLeDiff, Nat.reduceEqDiff, Nat.reduceSub, Nat.reduceMul, Nat.reduceBEq, Nat.reduceBNe, Nat.reducePow, Nat.reduceDiv, Int.reduceLE, Int.reduceLT, Int.reduceToNat, Int.reduceNeg, Int.reduceAdd, Int.reduceSub, Int.reduceEq, reduceIte, reduceCtorEq, UInt8.reduceOfNat, true_and]
          repeat refine And.intro (by first | omega | assumption | (simp; done) | (simp; omega) | (simp +contextual; done) | (simp_all; done) | (simp_all; omega)) ?_
          refine hK _ (roundE hX (fun k => k) (j := i + 1) (by omega) (by first | omega | (dsimp only; omega) | (simp; omega)) (by simp only [go_sem, Int.natCast_add, Nat.reduceAdd, Nat.reduceLT, Nat.reduceLeDiff, Nat.reduceEqDiff, Nat.reduceSub, Nat.reduceMul, Nat.reduceBEq, Nat.reduceBNe, Nat.reducePow, Nat.reduceDiv, Int.reduceLE, Int.reduceLT, Int.reduceToNat, Int.reduceNeg, Int.reduceAdd, Int.reduceSub, Int.reduceEq, reduceIte, reduceCtorEq, UInt8.reduceOfNat, hT2, hT3] <;> (try and_intros) <;> (try omega)))
    ·
      with_reducible refine WA.exitX ?_
      repeat first | with_reducible refine WX.b ?_ | with_reducible refine WX.t ?_ | (with_reducible refine WX.n ?hne ?_; case hne => rfl)
      have hs := sgN1_ok
      refine WA.regionK ty_ok hs fun K hK => ?_
      simp only [go_sem, Nat.reduceAdd, Nat.reduceLT, Nat.reduceLeDiff, Nat.reduceEqDiff, Nat.reduceSub, Nat.reduceMul, Nat.reduceBEq, Nat.reduceBNe, Nat.reducePow, Nat.reduceDiv, Int.reduceLE, Int.reduceLT, Int.reduceToNat, Int.reduceNeg, Int.reduceAdd, Int.reduceSub, Int.reduceEq, reduceIte, reduceCtorEq, UInt8.reduceOfNat, sgN1]
      repeat refine And.intro (by first | omega | assumption | (simp; done) | (simp; omega) | (simp +contextual; done) | (simp_all; done) | (simp_all; omega)) ?_
      refine hK _ ?_
      clear hK K
      refine WA.retE ty_ok (xs := [.lit (.bool true)]) (ls' := []) (rv := [.tmp 14]) rfl hX (by decide) (fun _ => rfl) (fun _ _ h => h) ?_
      simp only [go_sem, Nat.reduceAdd, Nat.reduceLT, Nat.reduceLeDiff, Nat.reduceEqDiff, Nat.reduceSub, Nat.reduceMul, Nat.reduceBEq, Nat.reduceBNe, Nat.reducePow, Nat.reduceDiv, Int.reduceLE, Int.reduceLT, Int.reduceToNat, Int.reduceNeg, Int.reduceAdd, Int.reduceSub, Int.reduceEq, reduceIte, reduceCtorEq, UInt8.reduceOfNat, sbT]
      all_goals (first | done | exact Nat.le_refl _ | (simp; done) | (and_intros <;> first | omega | exact Nat.le_refl _ | (simp; done) | (simp; omega)))
end Go.Proofs.YtgmmdijmlnehlaaDoor
