import Derived.Test.YteodlgmcniikpaaCnV
namespace Go.Proofs.Yteodlgmcniikpaa
open Go.RowKit Go.TravelBase Go.TravelAbs
set_option linter.unusedVariables false
set_option linter.unusedSimpArgs false

















/-! ### The law CommandJoins -/
def sgW : Sg := fun f args ls =>
  match f, args, ls with
  | 30, [.agg [.lit (.int .i64 a), .lit (.int .i64 b), .lit (.int .i64 c), .lit (.int .i64 d), .by_ e, .lit (.int .i64 x)], .lit (.int .i64 n)], [] => some (.tup [.li 6 ((chV ⟨a, b, c, d, e, x⟩ n).map cmA), .lit (.int .i64 (chE ⟨a, b, c, d, e, x⟩ n))], [], True)
  | 32, [.agg [.lit (.int .i64 a), .lit (.int .i64 b), .lit (.int .i64 c), .lit (.int .i64 d), .by_ e, .lit (.int .i64 x)], .agg [.lit (.int .i64 a2), .lit (.int .i64 b2), .lit (.int .i64 c2), .lit (.int .i64 d2), .by_ e2, .lit (.int .i64 x2)]], [] => some (.tup [.agg [.lit (.int .i64 (jnV ⟨a, b, c, d, e, x⟩ ⟨a2, b2, c2, d2, e2, x2⟩).cls), .lit (.int .i64 (jnV ⟨a, b, c, d, e, x⟩ ⟨a2, b2, c2, d2, e2, x2⟩).ins), .lit (.int .i64 (jnV ⟨a, b, c, d, e, x⟩ ⟨a2, b2, c2, d2, e2, x2⟩).p1), .lit (.int .i64 (jnV ⟨a, b, c, d, e, x⟩ ⟨a2, b2, c2, d2, e2, x2⟩).p2), .by_ (jnV ⟨a, b, c, d, e, x⟩ ⟨a2, b2, c2, d2, e2, x2⟩).data, .lit (.int .i64 (jnV ⟨a, b, c, d, e, x⟩ ⟨a2, b2, c2, d2, e2, x2⟩).exp)], .lit (.bool (jnO ⟨a, b, c, d, e, x⟩ ⟨a2, b2, c2, d2, e2, x2⟩)), .lit (.int .i64 (jnE ⟨a, b, c, d, e, x⟩ ⟨a2, b2, c2, d2, e2, x2⟩))], [], True)
  | 13, [], [] => some (.lit (.bool true), [], True)
  | 14, [.agg [.lit (.int .i64 a), .lit (.int .i64 b), .lit (.int .i64 c), .lit (.int .i64 d), .by_ e, .lit (.int .i64 x)]], [] => some (.lit (.bool (valC ⟨a, b, c, d, e, x⟩)), [], True)
  | 34, [.lit (.int .i64 x), .lit (.int .i64 n)], [] => some (.lit (.int .i64 (x % n)), [], (1 ≤ n ∧ n ≤ 4611686018427387904) ∧ -9223372036854775808 ≤ x ∧ x ≤ 9223372036854775807)
  | 17, [.agg [.lit (.int .i64 a), .lit (.int .i64 b), .lit (.int .i64 c), .lit (.int .i64 d), .by_ e, .lit (.int .i64 x)], .agg [.lit (.int .i64 a2), .lit (.int .i64 b2), .lit (.int .i64 c2), .lit (.int .i64 d2), .by_ e2, .lit (.int .i64 x2)]], [] => some (.lit (.bool (samC ⟨a, b, c, d, e, x⟩ ⟨a2, b2, c2, d2, e2, x2⟩)), [], True)
  | _, _, _ => none
theorem sgW_ok : SgOK Try.prog sgW := by
  intro f args ls r ls' vc h hvc
  unfold sgW at h
  split at h <;> first | (simp only [Option.some.injEq, Prod.mk.injEq] at h; obtain ⟨rfl, rfl, rfl⟩ := h) | cases h
  · rename_i a b c d e x n
    exact ⟨(fnOK Try.func30 (by decide) rfl), chain_s ⟨a, b, c, d, e, x⟩ n⟩
  · rename_i a b c d e x a2 b2 c2 d2 e2 x2
    exact ⟨(fnOK Try.func32 (by decide) rfl), join_s ⟨a, b, c, d, e, x⟩ ⟨a2, b2, c2, d2, e2, x2⟩⟩
  · exact ⟨(fnOK Try.func13 (by decide) rfl), awake_s⟩
  · rename_i a b c d e x
    exact ⟨(fnOK Try.func14 (by decide) rfl), valid_s ⟨a, b, c, d, e, x⟩⟩
  · exact ⟨(fnOK Try.func34 (by decide) rfl), mod_s _ _ hvc.1.1 hvc.1.2 hvc.2⟩
  · rename_i a b c d e x a2 b2 c2 d2 e2 x2
    exact ⟨(fnOK Try.func17 (by decide) rfl), same_s ⟨a, b, c, d, e, x⟩ ⟨a2, b2, c2, d2, e2, x2⟩⟩
theorem chP_at (c : Cm) (ps : List (List UInt8)) {k i : Nat} (h : i < k) : ((chP c ps k).map cmA).getD i .any = .agg [.lit (.int .i64 (pcC c ps i).cls), .lit (.int .i64 (pcC c ps i).ins), .lit (.int .i64 (pcC c ps i).p1), .lit (.int .i64 (pcC c ps i).p2), .by_ (pcC c ps i).data, .lit (.int .i64 (pcC c ps i).exp)] := by
  have h2 : i < (chP c ps k).length := by rw [chP_len]; exact h
  rw [cm_at h2]
  have : (chP c ps k)[i] = pcC c ps i := by simp [chP]
  rw [this]
set_option maxHeartbeats 4000000 in
theorem joins_s (l : List Int) (size : Int) (hl : ∀ y ∈ l, -9223372036854775808 ≤ y ∧ y ≤ 9223372036854775807) (hz : -9223372036854775808 ≤ size ∧ size ≤ 9223372036854775807) : FnS Try.prog 8 [.li 1 (l.map iA), .lit (.int .i64 size)] [] (.lit (.bool true)) [] := by
  have hs := sgL_ok
  have ht := stC_ok
  have hT := Tr_ia l
  refine FnS.of Try.func8 rfl (N := 93) rfl (by simp) (by simp) fun X hX => ?_
  simp only [tmArgs, lentH, Nat.reduceAdd]
  refine WA.regionK ty_ok hs fun K hK => ?_
  simp only [go_sem, Nat.reduceAdd, Nat.reduceLT, Nat.reduceLeDiff, Nat.reduceEqDiff, Nat.reduceSub, Nat.reduceMul, Nat.reduceBEq, Nat.reduceBNe, Nat.reducePow, Nat.reduceDiv, Int.reduceLE, Int.reduceLT, Int.reduceToNat, Int.reduceNeg, Int.reduceAdd, Int.reduceSub, Int.reduceEq, reduceIte, reduceCtorEq, UInt8.reduceOfNat, true_and]
  first
  | refine hK _ ?_
  | refine And.intro (by first | omega | (simp; done) | (simp; omega) | (simp +contextual; done) | (simp_all; done) | (simp_all; omega)) (hK _ ?_)
  clear hK K
  refine WA.seq ?_
  refine WA.regionK ty_ok hs fun K hK => ?_
  simp only [go_sem, Nat.reduceAdd, Nat.reduceLT, Nat.reduceLeDiff, Nat.reduceEqDiff, Nat.reduceSub, Nat.reduceMul, Nat.reduceBEq, Nat.reduceBNe, Nat.reducePow, Nat.reduceDiv, Int.reduceLE, Int.reduceLT, Int.reduceToNat, Int.reduceNeg, Int.reduceAdd, Int.reduceSub, Int.reduceEq, reduceIte, reduceCtorEq, UInt8.reduceOfNat, sgL]
  first
  | refine hK _ ?_
  | refine And.intro (by first | omega | (simp; done) | (simp; omega) | (simp +contextual; done) | (simp_all; done) | (simp_all; omega)) (hK _ ?_)
  clear hK K
  refine WA.cond rfl (fun h => ?_) (fun h => ?_)
  ·
    refine WA.regionK ty_ok hs fun K hK => ?_
    simp only [go_sem, Nat.reduceAdd, Nat.reduceLT, Nat.reduceLeDiff, Nat.reduceEqDiff, Nat.reduceSub, Nat.reduceMul, Nat.reduceBEq, Nat.reduceBNe, Nat.reducePow, Nat.reduceDiv, Int.reduceLE, Int.reduceLT, Int.reduceToNat, Int.reduceNeg, Int.reduceAdd, Int.reduceSub, Int.reduceEq, reduceIte, reduceCtorEq, UInt8.reduceOfNat, sgL]
    first
    | refine hK _ ?_
    | refine And.intro (by first | omega | (simp; done) | (simp; omega) | (simp +contextual; done) | (simp_all; done) | (simp_all; omega)) (hK _ ?_)
    clear hK K
    refine WA.retE ty_ok (xs := [.lit (.bool true)]) (ls' := []) (rv := [.tmp 4]) rfl hX (by decide) (fun _ => rfl) (fun _ _ h => h) ?_
    simp only [go_sem, Nat.reduceAdd, Nat.reduceLT, Nat.reduceLeDiff, Nat.reduceEqDiff, Nat.reduceSub, Nat.reduceMul, Nat.reduceBEq, Nat.reduceBNe, Nat.reducePow, Nat.reduceDiv, Int.reduceLE, Int.reduceLT, Int.reduceToNat, Int.reduceNeg, Int.reduceAdd, Int.reduceSub, Int.reduceEq, reduceIte, reduceCtorEq, UInt8.reduceOfNat, sbT]
  ·
    with_reducible refine WA.skipN ?_
    repeat first | with_reducible refine WN.t ?_ | with_reducible refine WN.b ?_
    have h6 : l.length ≤ 400 := by simp at h; omega
    have hd := dc_roll hl h6
    clear h
    refine WA.regQ ty_ok hs ht fun K hK => ?_
    simp only [go_sem, Nat.reduceAdd, Nat.reduceLT, Nat.reduceLeDiff, Nat.reduceEqDiff, Nat.reduceSub, Nat.reduceMul, Nat.reduceBEq, Nat.reduceBNe, Nat.reducePow, Nat.reduceDiv, Int.reduceLE, Int.reduceLT, Int.reduceToNat, Int.reduceNeg, Int.reduceAdd, Int.reduceSub, Int.reduceEq, reduceIte, reduceCtorEq, UInt8.reduceOfNat, sgL, stC, hd, hT]
    repeat refine And.intro (by first | omega | assumption | (simp; done) | (simp; omega) | (simp +contextual; done) | (simp_all; done) | (simp_all; omega)) ?_
    rintro ⟨c, z1⟩ ⟨hm, hd1⟩
    simp only at hm hd1
    try dsimp only
    repeat refine And.intro (by first | omega | assumption | (simp; done) | (simp; omega) | (simp +contextual; done) | (simp_all; done) | (simp_all; omega)) ?_
    refine hK _ ?_
    clear hK K
    have hs := sgW_ok
    have hn0 := Int.emod_nonneg size (show (255 : Int) ≠ 0 by omega)
    have hn1 := Int.emod_lt_of_pos size (show (0 : Int) < 255 by omega)
    obtain ⟨n, hn⟩ : ∃ n, 1 + size % 255 = n := ⟨_, rfl⟩
    have hn2 : 1 ≤ n ∧ n ≤ 255 := by omega
    have hC : (⟨c.cls, c.ins, c.p1, c.p2, c.data, c.exp⟩ : Cm) = c := rfl
    obtain ⟨k1, k2, k3, k4, k5⟩ := chB_made hm.2
    have e1 : chE c n = 0 := by unfold chE; rw [if_neg (by simp [hm.1, k1, k5]), if_neg (by omega)]
    have e2 : chV c n = chP c (ps2 c n) (ps2 c n).length := if_pos e1
    have hf := flat_ps2 c hn2.1
    have hp := ps2_pos c n
    have hle := fun i hi => ps2_le c hn2.1 (i := i) hi
    have hpl := ps2_len c n hn2.1
    have hcd := hm.1.2.2.1
    obtain ⟨ps, hps⟩ : ∃ ps, ps2 c n = ps := ⟨_, rfl⟩
    rw [hps] at e2 hf hp hle hpl
    have lps := chP_len c ps ps.length
    have hne : ((ps.length : Int) == 0) = false := beq_eq_false_iff_ne.2 (by omega)
    refine WA.regionK ty_ok hs fun K hK => ?_
    simp only [go_sem, Nat.reduceAdd, Nat.reduceLT, Nat.reduceLeDiff, Nat.reduceEqDiff, Nat.reduceSub, Nat.reduceMul, Nat.reduceBEq, Nat.reduceBNe, Nat.reducePow, Nat.reduceDiv, Int.reduceLE, Int.reduceLT, Int.reduceToNat, Int.reduceNeg, Int.reduceAdd, Int.reduceSub, Int.reduceEq, reduceIte, reduceCtorEq, UInt8.reduceOfNat, sgW, hz, hn]
    first
    | refine hK _ ?_
    | refine And.intro (by first | omega | (simp; done) | (simp; omega) | (simp +contextual; done) | (simp_all; done) | (simp_all; omega)) (hK _ ?_)
    clear hK K
    refine WA.regionK ty_ok hs fun K hK => ?_
    simp only [go_sem, Nat.reduceAdd, Nat.reduceLT, Nat.reduceLeDiff, Nat.reduceEqDiff, Nat.reduceSub, Nat.reduceMul, Nat.reduceBEq, Nat.reduceBNe, Nat.reducePow, Nat.reduceDiv, Int.reduceLE, Int.reduceLT, Int.reduceToNat, Int.reduceNeg, Int.reduceAdd, Int.reduceSub, Int.reduceEq, reduceIte, reduceCtorEq, UInt8.reduceOfNat, sgW, hC, e1, e2, Tr_cms]
    first
    | refine hK _ ?_
    | refine And.intro (by first | omega | (simp; done) | (simp; omega) | (simp +contextual; done) | (simp_all; done) | (simp_all; omega)) (hK _ ?_)
    clear hK K
    refine WA.seq ?_
    refine WA.regionK ty_ok hs fun K hK => ?_
    simp only [go_sem, Nat.reduceAdd, Nat.reduceLT, Nat.reduceLeDiff, Nat.reduceEqDiff, Nat.reduceSub, Nat.reduceMul, Nat.reduceBEq, Nat.reduceBNe, Nat.reducePow, Nat.reduceDiv, Int.reduceLE, Int.reduceLT, Int.reduceToNat, Int.reduceNeg, Int.reduceAdd, Int.reduceSub, Int.reduceEq, reduceIte, reduceCtorEq, UInt8.reduceOfNat, sgW, lps, hne]
    first
    | refine hK _ ?_
    | refine And.intro (by first | omega | (simp; done) | (simp; omega) | (simp +contextual; done) | (simp_all; done) | (simp_all; omega)) (hK _ ?_)
    clear hK K
    refine WA.cond rfl (fun h => ?_) (fun h => ?_)
    · cases h
    ·
      with_reducible refine WA.skipN ?_
      repeat first | with_reducible refine WN.t ?_ | with_reducible refine WN.b ?_
      have g0 := chP_at c ps (k := ps.length) (i := 0) (by omega)
      have j1 : jxC c ps 1 = pcC c ps 0 := if_pos rfl
      refine WA.regionK ty_ok hs fun K hK => ?_
      simp only [go_sem, Nat.reduceAdd, Nat.reduceLT, Nat.reduceLeDiff, Nat.reduceEqDiff, Nat.reduceSub, Nat.reduceMul, Nat.reduceBEq, Nat.reduceBNe, Nat.reducePow, Nat.reduceDiv, Int.reduceLE, Int.reduceLT, Int.reduceToNat, Int.reduceNeg, Int.reduceAdd, Int.reduceSub, Int.reduceEq, reduceIte, reduceCtorEq, UInt8.reduceOfNat, g0, lps]
      first
      | refine hK _ ?_
      | refine And.intro (by first | omega | (simp; done) | (simp; omega) | (simp +contextual; done) | (simp_all; done) | (simp_all; omega)) (hK _ ?_)
      clear hK K
      refine WA.seq ?_
      refine WA.regionK ty_ok hs fun K hK => ?_
      simp only [go_sem, Nat.reduceAdd, Nat.reduceLT, Nat.reduceLeDiff, Nat.reduceEqDiff, Nat.reduceSub, Nat.reduceMul, Nat.reduceBEq, Nat.reduceBNe, Nat.reducePow, Nat.reduceDiv, Int.reduceLE, Int.reduceLT, Int.reduceToNat, Int.reduceNeg, Int.reduceAdd, Int.reduceSub, Int.reduceEq, reduceIte, reduceCtorEq, UInt8.reduceOfNat, true_and]
      first
      | refine hK _ ?_
      | refine And.intro (by first | omega | (simp; done) | (simp; omega) | (simp +contextual; done) | (simp_all; done) | (simp_all; omega)) (hK _ ?_)
      clear hK K
      refine WA.block ?_
      refine WA.loopW hX (fun k => k) ((fun (i : Nat) => ⟨[(5, .ptr 2056 0 0), (6, .lit (.int .i64 n)), (7, .li 6 ((chP c ps ps.length).map cmA)), (9, .ptr 2280 0 0), (10, .lit (.int .i64 (i : Nat)))], [(2280, ⟨.li 6 [.agg [.lit (.int .i64 (jxC c ps i).cls), .lit (.int .i64 (jxC c ps i).ins), .lit (.int .i64 (jxC c ps i).p1), .lit (.int .i64 (jxC c ps i).p2), .by_ (jxC c ps i).data, .lit (.int .i64 (jxC c ps i).exp)]], 0, false⟩), (2056, ⟨.li 6 [.agg [.lit (.int .i64 c.cls), .lit (.int .i64 c.ins), .lit (.int .i64 c.p1), .lit (.int .i64 c.p2), .by_ c.data, .lit (.int .i64 c.exp)]], 0, false⟩)], 3000, 93⟩ : _ → St)) (fun i => ps.length - i) (fun i => 1 ≤ i ∧ i ≤ ps.length) (i0 := 1) (⟨Nat.le_refl _, hp⟩) (by simp only [go_sem, Int.natCast_add, Nat.reduceAdd, Nat.reduceLT, Nat.reduceLeDiff, Nat.reduceEqDiff, Nat.reduceSub, Nat.reduceMul, Nat.reduceBEq, Nat.reduceBNe, Nat.reducePow, Nat.reduceDiv, Int.reduceLE, Int.reduceLT, Int.reduceToNat, Int.reduceNeg, Int.reduceAdd, Int.reduceSub, Int.reduceEq, reduceIte, reduceCtorEq, UInt8.reduceOfNat, Tr_cms, j1, true_or, Int.natCast_one] <;> (try and_intros) <;> (try omega)) fun i hi => ?_
      have lm : ((chP c ps ps.length).map cmA).length = ps.length := by rw [List.length_map, lps]
      refine WA.seq ?_
      refine WA.regionK ty_ok hs fun K hK => ?_
      simp only [go_sem, Nat.reduceAdd, Nat.reduceLT, Nat.reduceLeDiff, Nat.reduceEqDiff, Nat.reduceSub, Nat.reduceMul, Nat.reduceBEq, Nat.reduceBNe, Nat.reducePow, Nat.reduceDiv, Int.reduceLE, Int.reduceLT, Int.reduceToNat, Int.reduceNeg, Int.reduceAdd, Int.reduceSub, Int.reduceEq, reduceIte, reduceCtorEq, UInt8.reduceOfNat, lps]
      first
      | refine hK _ ?_
      | refine And.intro (by first | omega | (simp; done) | (simp; omega) | (simp +contextual; done) | (simp_all; done) | (simp_all; omega)) (hK _ ?_)
      clear hK K
      refine WA.cond rfl (fun h => ?_) (fun h => ?_)
      ·
        with_reducible refine WA.skipN ?_
        repeat first | with_reducible refine WN.t ?_ | with_reducible refine WN.b ?_
        have h : (i : Int) < (ps.length : Nat) := by first | (simp only [Bool.and_eq_true, Bool.or_eq_true, Bool.not_eq_true', decide_eq_true_eq, decide_eq_false_iff_not, beq_iff_eq, bne_iff_ne, ne_eq, Bool.not_eq_eq_eq_not, Bool.not_true, Bool.not_false, beq_eq_false_iff_ne, bne_eq_false_iff_eq, Bool.and_eq_false_imp, Bool.or_eq_false_iff, Bool.cond_false_right, Bool.cond_true_left, Bool.cond_false_left, Bool.cond_true_right, gt_iff_lt, ge_iff_le, true_and] at h; first | exact h | omega) | omega | simpa using h
        have hi2 : i < ps.length := by omega
        obtain ⟨w1, w2, w3⟩ := jx_step hm hf hi.1 hi2
        have g := chP_at c ps hi2
        have hZ : (⟨(jxC c ps i).cls, (jxC c ps i).ins, (jxC c ps i).p1, (jxC c ps i).p2, (jxC c ps i).data, (jxC c ps i).exp⟩ : Cm) = jxC c ps i := rfl
        have hY : (⟨(pcC c ps i).cls, (pcC c ps i).ins, (pcC c ps i).p1, (pcC c ps i).p2, (pcC c ps i).data, (pcC c ps i).exp⟩ : Cm) = pcC c ps i := rfl
        have vv : valC (pcC c ps i) = true := decide_eq_true (pc_val hm hf hi2)
        have pd : (pcC c ps i).data = ps[i] := by
          have gd : ps.getD i [] = ps[i] := by simp [List.getD, List.getElem?_eq_getElem hi2]
          unfold pcC
          split <;> exact gd
        have hle2 := hle i hi2
        have eq9 : decide (i = ps.length - 1) = ((i : Int) == (ps.length : Int) - 1) := by rw [beqi]; exact decide_eq_decide.2 (by omega)
        refine WA.seq ?_
        refine WA.block ?_
        refine WA.drawnK mixed_ ty_ok hs (tbl := [[], [], [], [1, 2], [1, 2, 3], [0, 1, 2, 3, 4], [0, 1, 2, 3, 4, 5], [0, 1, 2, 3, 4, 5, 6], [0, 1, 2, 3, 4, 5, 6], [0, 1, 2, 3, 4, 5, 6], [], [0, 1, 2, 3, 4, 5, 6, 7, 10], [0, 1, 2, 3, 4, 5, 6, 7, 8, 10, 11], [0, 1, 2, 3, 4, 5, 6, 7, 8, 9, 10, 11, 12]]) (nb := [0, 4, 5, 11]) (by kernel_rfl) fun K hK => ?_
        simp only [go_sem, Nat.reduceAdd, Nat.reduceLT, Nat.reduceLeDiff, Nat.reduceEqDiff, Nat.reduceSub, Nat.reduceMul, Nat.reduceBEq, Nat.reduceBNe, Nat.reducePow, Nat.reduceDiv, Int.reduceLE, Int.reduceLT, Int.reduceToNat, Int.reduceNeg, Int.reduceAdd, Int.reduceSub, Int.reduceEq, reduceIte, reduceCtorEq, UInt8.reduceOfNat, sgW, g, lps, lm, hZ, hY, w1, w2, w3]
        first
        | refine hK _ ?_
        | refine And.intro (by first | omega | (simp; done) | (simp; omega) | (simp +contextual; done) | (simp_all; done) | (simp_all; omega)) (hK _ ?_)
        clear hK K
        refine WA.seq ?_
        refine WA.regionK ty_ok hs fun K hK => ?_
        simp only [go_sem, Nat.reduceAdd, Nat.reduceLT, Nat.reduceLeDiff, Nat.reduceEqDiff, Nat.reduceSub, Nat.reduceMul, Nat.reduceBEq, Nat.reduceBNe, Nat.reducePow, Nat.reduceDiv, Int.reduceLE, Int.reduceLT, Int.reduceToNat, Int.reduceNeg, Int.reduceAdd, Int.reduceSub, Int.reduceEq, reduceIte, reduceCtorEq, UInt8.reduceOfNat, sgW, g, lps, lm, hY, vv, pd, eq9]
        first
        | refine hK _ ?_
        | refine And.intro (by first | omega | (simp; done) | (simp; omega) | (simp +contextual; done) | (simp_all; done) | (simp_all; omega)) (hK _ ?_)
        clear hK K
        refine WA.cond rfl (fun h => ?_) (fun h => ?_)
        · exfalso
          have v2 : valC ⟨(pcC c ps i).cls, (pcC c ps i).ins, (pcC c ps i).p1, (pcC c ps i).p2, ps[i], (pcC c ps i).exp⟩ = true := by rw [← pd]; exact vv
          have v3 : decide ((ps[i].length : Int) > n) = false := decide_eq_false (by omega)
          rw [v2, v3] at h
          cases h
        ·
          with_reducible refine WA.skipN ?_
          repeat first | with_reducible refine WN.t ?_ | with_reducible refine WN.b ?_
          refine WA.regionE ty_ok hs fun K hK => ?_
          simp only [go_sem, Nat.reduceAdd, Nat.reduceLT, Nat.reduceLeDiff, Nat.reduceEqDiff, Nat.reduceSub, Nat.reduceMul, Nat.reduceBEq, Nat.reduceBNe, Nat.reducePow, Nat.reduceDiv, Int.reduceLE, Int.reduceLT, Int.reduceToNat, Int.reduceNeg, Int.reduceAdd, Int.reduceSub, Int.reduceEq, reduceIte, reduceCtorEq, UInt8.reduceOfNat, true_and]
          repeat refine And.intro (by first | omega | assumption | (simp; done) | (simp; omega) | (simp +contextual; done) | (simp_all; done) | (simp_all; omega)) ?_
          with_reducible refine hK _ (WN.mk ?_)
          clear hK K
          repeat first | with_reducible refine WN.t ?_ | with_reducible refine WN.b ?_
          refine WA.regionE ty_ok hs fun K hK => ?_
          simp only [go_sem, Nat.reduceAdd, Nat.reduceLT, Nat.reduceLeDiff, Nat.reduceEqDiff, Nat.reduceSub, Nat.reduceMul, Nat.reduceBEq, Nat.reduceBNe, Nat.reducePow, Nat.reduceDiv, Int.reduceLE, Int.reduceLT, Int.reduceToNat, Int.reduceNeg, Int.reduceAdd, Int.reduceSub, Int.reduceEq, reduceIte, reduceCtorEq, UInt8.reduceOfNat, true_and]
          repeat refine And.intro (by first | omega | assumption | (simp; done) | (simp; omega) | (simp +contextual; done) | (simp_all; done) | (simp_all; omega)) ?_
          refine hK _ (roundE hX (fun k => k) (j := i + 1) (by omega) (by first | omega | (dsimp only; omega) | (simp; omega)) (by simp only [go_sem, Int.natCast_add, Nat.reduceAdd, Nat.reduceLT, Nat.reduceLeDiff, Nat.reduceEqDiff, Nat.reduceSub, Nat.reduceMul, Nat.reduceBEq, Nat.reduceBNe, Nat.reducePow, Nat.reduceDiv, Int.reduceLE, Int.reduceLT, Int.reduceToNat, Int.reduceNeg, Int.reduceAdd, Int.reduceSub, Int.reduceEq, reduceIte, reduceCtorEq, UInt8.reduceOfNat, Tr_cms] <;> (try and_intros) <;> (try omega)))
      ·
        with_reducible refine WA.exitX ?_
        repeat first | with_reducible refine WX.b ?_ | with_reducible refine WX.t ?_ | (with_reducible refine WX.n ?hne ?_; case hne => rfl)
        have h : ¬ (i : Int) < (ps.length : Nat) := by first | (simp only [Bool.and_eq_true, Bool.or_eq_true, Bool.not_eq_true', decide_eq_true_eq, decide_eq_false_iff_not, beq_iff_eq, bne_iff_ne, ne_eq, Bool.not_eq_eq_eq_not, Bool.not_true, Bool.not_false, beq_eq_false_iff_ne, bne_eq_false_iff_eq, Bool.and_eq_false_imp, Bool.or_eq_false_iff, Bool.cond_false_right, Bool.cond_true_left, Bool.cond_false_left, Bool.cond_true_right, gt_iff_lt, ge_iff_le, true_and] at h; first | exact h | omega) | omega | simpa using h
        obtain rfl : i = ps.length := by omega
        rw [jx_end hf hp]
        refine WA.regionK ty_ok hs fun K hK => ?_
        simp only [go_sem, Nat.reduceAdd, Nat.reduceLT, Nat.reduceLeDiff, Nat.reduceEqDiff, Nat.reduceSub, Nat.reduceMul, Nat.reduceBEq, Nat.reduceBNe, Nat.reducePow, Nat.reduceDiv, Int.reduceLE, Int.reduceLT, Int.reduceToNat, Int.reduceNeg, Int.reduceAdd, Int.reduceSub, Int.reduceEq, reduceIte, reduceCtorEq, UInt8.reduceOfNat, sgW, hC, samC_self]
        first
        | refine hK _ ?_
        | refine And.intro (by first | omega | (simp; done) | (simp; omega) | (simp +contextual; done) | (simp_all; done) | (simp_all; omega)) (hK _ ?_)
        clear hK K
        refine WA.retE ty_ok (xs := [.lit (.bool true)]) (ls' := []) (rv := [.tmp 4]) rfl hX (by decide) (fun _ => rfl) (fun _ _ h => h) ?_
        simp only [go_sem, Nat.reduceAdd, Nat.reduceLT, Nat.reduceLeDiff, Nat.reduceEqDiff, Nat.reduceSub, Nat.reduceMul, Nat.reduceBEq, Nat.reduceBNe, Nat.reducePow, Nat.reduceDiv, Int.reduceLE, Int.reduceLT, Int.reduceToNat, Int.reduceNeg, Int.reduceAdd, Int.reduceSub, Int.reduceEq, reduceIte, reduceCtorEq, UInt8.reduceOfNat, sbT]
        all_goals (first | done | exact Nat.le_refl _ | (simp; done) | (and_intros <;> first | omega | exact Nat.le_refl _ | (simp; done) | (simp; omega)))
end Go.Proofs.Yteodlgmcniikpaa
