import Derived.Test.YteodlgmcniikpaaCnA
namespace Go.Proofs.Yteodlgmcniikpaa
open Go.RowKit Go.TravelBase Go.TravelAbs
set_option linter.unusedVariables false
set_option linter.unusedSimpArgs false

















/-! ### Writing a command -/
def sgOc : Sg := fun f args ls =>
  match f, args, ls with
  | 50, [.lit (.int .i64 n), .lit (.int .i64 k)], [] => some (.tup [.fr (.by_ (octL n k)), .lit (.int .i64 (octE n k))], [], (-9223372036854775808 ≤ n ∧ n ≤ 9223372036854775807) ∧ -9223372036854775808 ≤ k ∧ k ≤ 9223372036854775807)
  | 43, [.by_ bs], [] => some (.tup [.lit (.int .i64 (numV bs)), .lit (.int .i64 (numE bs))], [], True)
  | _, _, _ => none
theorem sgOc_ok : SgOK Try.prog sgOc := by
  intro f args ls r ls' vc h hvc
  unfold sgOc at h
  split at h <;> first | (simp only [Option.some.injEq, Prod.mk.injEq] at h; obtain ⟨rfl, rfl, rfl⟩ := h) | cases h
  · exact ⟨(fnOK Try.func50 (by decide) rfl), octets_s _ _ hvc.1 hvc.2⟩
  · exact ⟨(fnOK Try.func43 (by decide) rfl), number_s _⟩
def bnI (k n : Int) : List UInt8 := if k = 1 then b1 n else b2 n
theorem num_s (n k : Int) (h : 0 ≤ n) (h2 : n ≤ 9223372036854775807) (hk : k = 1 ∨ k = 2) : FnS Try.prog 35 [.lit (.int .i64 n), .lit (.int .i64 k)] [] (.fr (.by_ (bnI k n))) [] := by
  have hs := sgOc_ok
  have t1 := Int.tmod_lt_of_pos n (show (0 : Int) < 256 by omega)
  have t2 := Int.tmod_nonneg 256 h
  have t3 := Int.tmod_lt_of_pos n (show (0 : Int) < 65536 by omega)
  have t4 := Int.tmod_nonneg 65536 h
  have e1 := number1 h
  have e2 := number2 h
  have w1 : IntKind.i64.wrap 256 = 256 := by decide
  have w2 : IntKind.i64.wrap 65536 = 65536 := by decide
  rcases hk with rfl | rfl
  · refine FnS.of Try.func35 rfl (N := 18) rfl (by simp) (by simp) fun X hX => ?_
    simp only [tmArgs, lentH, Nat.reduceAdd]
    refine WA.regionK ty_ok hs fun K hK => ?_
    simp only [go_sem, Nat.reduceAdd, Nat.reduceLT, Nat.reduceLeDiff, Nat.reduceEqDiff, Nat.reduceSub, Nat.reduceMul, Nat.reduceBEq, Nat.reduceBNe, Nat.reducePow, Nat.reduceDiv, Int.reduceLE, Int.reduceLT, Int.reduceToNat, Int.reduceNeg, Int.reduceAdd, Int.reduceSub, Int.reduceEq, reduceIte, reduceCtorEq, UInt8.reduceOfNat, true_and]
    first
    | refine hK _ ?_
    | refine And.intro (by first | omega | (simp; done) | (simp; omega) | (simp +contextual; done) | (simp_all; done) | (simp_all; omega)) (hK _ ?_)
    clear hK K
    refine WA.regionK ty_ok hs fun K hK => ?_
    simp only [go_sem, Nat.reduceAdd, Nat.reduceLT, Nat.reduceLeDiff, Nat.reduceEqDiff, Nat.reduceSub, Nat.reduceMul, Nat.reduceBEq, Nat.reduceBNe, Nat.reducePow, Nat.reduceDiv, Int.reduceLE, Int.reduceLT, Int.reduceToNat, Int.reduceNeg, Int.reduceAdd, Int.reduceSub, Int.reduceEq, reduceIte, reduceCtorEq, UInt8.reduceOfNat, sgOc, Int.reduceMul, Int.reducePow, w1, e1]
    first
    | refine hK _ ?_
    | refine And.intro (by first | omega | (simp; done) | (simp; omega) | (simp +contextual; done) | (simp_all; done) | (simp_all; omega)) (hK _ ?_)
    clear hK K
    refine WA.regionK ty_ok hs fun K hK => ?_
    simp only [go_sem, Nat.reduceAdd, Nat.reduceLT, Nat.reduceLeDiff, Nat.reduceEqDiff, Nat.reduceSub, Nat.reduceMul, Nat.reduceBEq, Nat.reduceBNe, Nat.reducePow, Nat.reduceDiv, Int.reduceLE, Int.reduceLT, Int.reduceToNat, Int.reduceNeg, Int.reduceAdd, Int.reduceSub, Int.reduceEq, reduceIte, reduceCtorEq, UInt8.reduceOfNat, true_and]
    first
    | refine hK _ ?_
    | refine And.intro (by first | omega | (simp; done) | (simp; omega) | (simp +contextual; done) | (simp_all; done) | (simp_all; omega)) (hK _ ?_)
    clear hK K
    refine WA.retE ty_ok (xs := [.fr (.by_ (bnI 1 n))]) (ls' := []) (rv := [.tmp 4]) rfl hX (by decide) (fun _ => rfl) (fun _ _ h => h) ?_
    simp only [go_sem, Nat.reduceAdd, Nat.reduceLT, Nat.reduceLeDiff, Nat.reduceEqDiff, Nat.reduceSub, Nat.reduceMul, Nat.reduceBEq, Nat.reduceBNe, Nat.reducePow, Nat.reduceDiv, Int.reduceLE, Int.reduceLT, Int.reduceToNat, Int.reduceNeg, Int.reduceAdd, Int.reduceSub, Int.reduceEq, reduceIte, reduceCtorEq, UInt8.reduceOfNat, bnI]
  · refine FnS.of Try.func35 rfl (N := 18) rfl (by simp) (by simp) fun X hX => ?_
    simp only [tmArgs, lentH, Nat.reduceAdd]
    refine WA.regionK ty_ok hs fun K hK => ?_
    simp only [go_sem, Nat.reduceAdd, Nat.reduceLT, Nat.reduceLeDiff, Nat.reduceEqDiff, Nat.reduceSub, Nat.reduceMul, Nat.reduceBEq, Nat.reduceBNe, Nat.reducePow, Nat.reduceDiv, Int.reduceLE, Int.reduceLT, Int.reduceToNat, Int.reduceNeg, Int.reduceAdd, Int.reduceSub, Int.reduceEq, reduceIte, reduceCtorEq, UInt8.reduceOfNat, true_and]
    first
    | refine hK _ ?_
    | refine And.intro (by first | omega | (simp; done) | (simp; omega) | (simp +contextual; done) | (simp_all; done) | (simp_all; omega)) (hK _ ?_)
    clear hK K
    refine WA.regionK ty_ok hs fun K hK => ?_
    simp only [go_sem, Nat.reduceAdd, Nat.reduceLT, Nat.reduceLeDiff, Nat.reduceEqDiff, Nat.reduceSub, Nat.reduceMul, Nat.reduceBEq, Nat.reduceBNe, Nat.reducePow, Nat.reduceDiv, Int.reduceLE, Int.reduceLT, Int.reduceToNat, Int.reduceNeg, Int.reduceAdd, Int.reduceSub, Int.reduceEq, reduceIte, reduceCtorEq, UInt8.reduceOfNat, sgOc, Int.reduceMul, Int.reducePow, w2, e2]
    first
    | refine hK _ ?_
    | refine And.intro (by first | omega | (simp; done) | (simp; omega) | (simp +contextual; done) | (simp_all; done) | (simp_all; omega)) (hK _ ?_)
    clear hK K
    refine WA.regionK ty_ok hs fun K hK => ?_
    simp only [go_sem, Nat.reduceAdd, Nat.reduceLT, Nat.reduceLeDiff, Nat.reduceEqDiff, Nat.reduceSub, Nat.reduceMul, Nat.reduceBEq, Nat.reduceBNe, Nat.reducePow, Nat.reduceDiv, Int.reduceLE, Int.reduceLT, Int.reduceToNat, Int.reduceNeg, Int.reduceAdd, Int.reduceSub, Int.reduceEq, reduceIte, reduceCtorEq, UInt8.reduceOfNat, true_and]
    first
    | refine hK _ ?_
    | refine And.intro (by first | omega | (simp; done) | (simp; omega) | (simp +contextual; done) | (simp_all; done) | (simp_all; omega)) (hK _ ?_)
    clear hK K
    refine WA.retE ty_ok (xs := [.fr (.by_ (bnI 2 n))]) (ls' := []) (rv := [.tmp 4]) rfl hX (by decide) (fun _ => rfl) (fun _ _ h => h) ?_
    simp only [go_sem, Nat.reduceAdd, Nat.reduceLT, Nat.reduceLeDiff, Nat.reduceEqDiff, Nat.reduceSub, Nat.reduceMul, Nat.reduceBEq, Nat.reduceBNe, Nat.reducePow, Nat.reduceDiv, Int.reduceLE, Int.reduceLT, Int.reduceToNat, Int.reduceNeg, Int.reduceAdd, Int.reduceSub, Int.reduceEq, reduceIte, reduceCtorEq, UInt8.reduceOfNat, bnI]

def sgE : Sg := fun f args ls =>
  match f, args, ls with
  | 14, [.agg [.lit (.int .i64 a), .lit (.int .i64 b), .lit (.int .i64 c), .lit (.int .i64 d), .by_ e, .lit (.int .i64 x)]], [] => some (.lit (.bool (valC ⟨a, b, c, d, e, x⟩)), [], True)
  | 15, [.agg [.lit (.int .i64 a), .lit (.int .i64 b), .lit (.int .i64 c), .lit (.int .i64 d), .by_ e, .lit (.int .i64 x)]], [] => some (.lit (.bool (valC ⟨a, b, c, d, e, x⟩)), [], True)
  | 35, [.lit (.int .i64 n), .lit (.int .i64 k)], [] => some (.fr (.by_ (bnI k n)), [], 0 ≤ n ∧ n ≤ 9223372036854775807 ∧ (k = 1 ∨ k = 2))
  | _, _, _ => none
theorem sgE_ok : SgOK Try.prog sgE := by
  intro f args ls r ls' vc h hvc
  unfold sgE at h
  split at h <;> first | (simp only [Option.some.injEq, Prod.mk.injEq] at h; obtain ⟨rfl, rfl, rfl⟩ := h) | cases h
  · rename_i a b c d e x
    exact ⟨(fnOK Try.func14 (by decide) rfl), valid_s ⟨a, b, c, d, e, x⟩⟩
  · rename_i a b c d e x
    exact ⟨(fnOK Try.func15 (by decide) rfl), rvalid_s ⟨a, b, c, d, e, x⟩⟩
  · exact ⟨(fnOK Try.func35 (by decide) rfl), num_s _ _ hvc.1 hvc.2.1 hvc.2.2⟩
theorem encode_s (c : Cm) : FnS Try.prog 9 [.agg [.lit (.int .i64 c.cls), .lit (.int .i64 c.ins), .lit (.int .i64 c.p1), .lit (.int .i64 c.p2), .by_ c.data, .lit (.int .i64 c.exp)]] [] (.tup [.by_ (encV c), .lit (.int .i64 (encE c))]) [] := by
  have hs := sgE_ok
  have hC : (⟨c.cls, c.ins, c.p1, c.p2, c.data, c.exp⟩ : Cm) = c := rfl
  refine FnS.of Try.func9 rfl (N := 59) rfl (by simp) (by simp) fun X hX => ?_
  simp only [tmArgs, lentH, Nat.reduceAdd]
  refine WA.regionK ty_ok hs fun K hK => ?_
  simp only [go_sem, Nat.reduceAdd, Nat.reduceLT, Nat.reduceLeDiff, Nat.reduceEqDiff, Nat.reduceSub, Nat.reduceMul, Nat.reduceBEq, Nat.reduceBNe, Nat.reducePow, Nat.reduceDiv, Int.reduceLE, Int.reduceLT, Int.reduceToNat, Int.reduceNeg, Int.reduceAdd, Int.reduceSub, Int.reduceEq, reduceIte, reduceCtorEq, UInt8.reduceOfNat, true_and]
  first
  | refine hK _ ?_
  | refine And.intro (by first | omega | (simp; done) | (simp; omega) | (simp +contextual; done) | (simp_all; done) | (simp_all; omega)) (hK _ ?_)
  clear hK K
  refine WA.seq ?_
  refine WA.regionK ty_ok hs fun K hK => ?_
  simp only [go_sem, Nat.reduceAdd, Nat.reduceLT, Nat.reduceLeDiff, Nat.reduceEqDiff, Nat.reduceSub, Nat.reduceMul, Nat.reduceBEq, Nat.reduceBNe, Nat.reducePow, Nat.reduceDiv, Int.reduceLE, Int.reduceLT, Int.reduceToNat, Int.reduceNeg, Int.reduceAdd, Int.reduceSub, Int.reduceEq, reduceIte, reduceCtorEq, UInt8.reduceOfNat, sgE, hC]
  first
  | refine hK _ ?_
  | refine And.intro (by first | omega | (simp; done) | (simp; omega) | (simp +contextual; done) | (simp_all; done) | (simp_all; omega)) (hK _ ?_)
  clear hK K
  refine WA.cond rfl (fun h => ?_) (fun h => ?_)
  ·
    have hv : ¬ ValC c := by simpa [valC] using h
    have e1 : encV c = [] := if_neg hv
    have e2 : encE c = 14 := if_neg hv
    refine WA.regionK ty_ok hs fun K hK => ?_
    simp only [go_sem, Nat.reduceAdd, Nat.reduceLT, Nat.reduceLeDiff, Nat.reduceEqDiff, Nat.reduceSub, Nat.reduceMul, Nat.reduceBEq, Nat.reduceBNe, Nat.reducePow, Nat.reduceDiv, Int.reduceLE, Int.reduceLT, Int.reduceToNat, Int.reduceNeg, Int.reduceAdd, Int.reduceSub, Int.reduceEq, reduceIte, reduceCtorEq, UInt8.reduceOfNat, true_and]
    first
    | refine hK _ ?_
    | refine And.intro (by first | omega | (simp; done) | (simp; omega) | (simp +contextual; done) | (simp_all; done) | (simp_all; omega)) (hK _ ?_)
    clear hK K
    refine WA.retE ty_ok (xs := [.by_ (encV c), .lit (.int .i64 (encE c))]) (ls' := []) (rv := [.tmp 2, .tmp 3]) rfl hX (by decide) (fun _ => rfl) (fun _ _ h => h) ?_
    simp only [go_sem, Nat.reduceAdd, Nat.reduceLT, Nat.reduceLeDiff, Nat.reduceEqDiff, Nat.reduceSub, Nat.reduceMul, Nat.reduceBEq, Nat.reduceBNe, Nat.reducePow, Nat.reduceDiv, Int.reduceLE, Int.reduceLT, Int.reduceToNat, Int.reduceNeg, Int.reduceAdd, Int.reduceSub, Int.reduceEq, reduceIte, reduceCtorEq, UInt8.reduceOfNat, sbT, e1, e2]
  ·
    have hv : ValC c := by simpa [valC] using h
    clear h
    have e1 : encV c = encB c := if_pos hv
    have e2 : encE c = 0 := if_pos hv
    rw [e1, e2]
    obtain ⟨-, -, hl, hx⟩ := hv
    with_reducible refine WA.skipN ?_
    repeat first | with_reducible refine WN.t ?_ | with_reducible refine WN.b ?_
    refine WA.regionK ty_ok hs fun K hK => ?_
    simp only [go_sem, Nat.reduceAdd, Nat.reduceLT, Nat.reduceLeDiff, Nat.reduceEqDiff, Nat.reduceSub, Nat.reduceMul, Nat.reduceBEq, Nat.reduceBNe, Nat.reducePow, Nat.reduceDiv, Int.reduceLE, Int.reduceLT, Int.reduceToNat, Int.reduceNeg, Int.reduceAdd, Int.reduceSub, Int.reduceEq, reduceIte, reduceCtorEq, UInt8.reduceOfNat, true_and]
    first
    | refine hK _ ?_
    | refine And.intro (by first | omega | (simp; done) | (simp; omega) | (simp +contextual; done) | (simp_all; done) | (simp_all; omega)) (hK _ ?_)
    clear hK K
    refine WA.regionK ty_ok hs fun K hK => ?_
    simp only [go_sem, Nat.reduceAdd, Nat.reduceLT, Nat.reduceLeDiff, Nat.reduceEqDiff, Nat.reduceSub, Nat.reduceMul, Nat.reduceBEq, Nat.reduceBNe, Nat.reducePow, Nat.reduceDiv, Int.reduceLE, Int.reduceLT, Int.reduceToNat, Int.reduceNeg, Int.reduceAdd, Int.reduceSub, Int.reduceEq, reduceIte, reduceCtorEq, UInt8.reduceOfNat, true_and]
    first
    | refine hK _ ?_
    | refine And.intro (by first | omega | (simp; done) | (simp; omega) | (simp +contextual; done) | (simp_all; done) | (simp_all; omega)) (hK _ ?_)
    clear hK K
    obtain ⟨k, hk⟩ : ∃ k : Int, (if lngC c = true then 2 else 1) = k := ⟨_, rfl⟩
    obtain ⟨L1, hL1⟩ : ∃ L1, hdC c ++ (if lngC c then [0] else []) = L1 := ⟨_, rfl⟩
    have hbn : ∀ n, bnI k n = bn (lngC c) n := fun n => by
      subst hk
      unfold bnI bn
      cases lngC c <;> rfl
    have hk2 : k = 1 ∨ k = 2 := by
      subst hk
      cases lngC c <;> simp
    refine WA.join (fun (_ : Unit) => ⟨[(1, .ptr 2000 0 0), (4, .sl 3000 1 0 (List.length L1)), (5, .lit (.int .i64 k))], [(3000, ⟨.by_ L1, 0, false⟩), (2000, ⟨.li 6 [.agg [.lit (.int .i64 c.cls), .lit (.int .i64 c.ins), .lit (.int .i64 c.p1), .lit (.int .i64 c.p2), .by_ c.data, .lit (.int .i64 c.exp)]], 0, false⟩)], 4000, 59⟩) (fun _ => True) ?_ ?_
    ·
      refine WA.regionK ty_ok hs fun K hK => ?_
      simp only [go_sem, Nat.reduceAdd, Nat.reduceLT, Nat.reduceLeDiff, Nat.reduceEqDiff, Nat.reduceSub, Nat.reduceMul, Nat.reduceBEq, Nat.reduceBNe, Nat.reducePow, Nat.reduceDiv, Int.reduceLE, Int.reduceLT, Int.reduceToNat, Int.reduceNeg, Int.reduceAdd, Int.reduceSub, Int.reduceEq, reduceIte, reduceCtorEq, UInt8.reduceOfNat, true_and]
      first
      | refine hK _ ?_
      | refine And.intro (by first | omega | (simp; done) | (simp; omega) | (simp +contextual; done) | (simp_all; done) | (simp_all; omega)) (hK _ ?_)
      clear hK K
      refine WA.cond rfl (fun h => ?_) (fun h => ?_)
      ·
        have h : 255 < (c.data.length : Int) ∨ 256 < c.exp := by first | (simp only [Bool.and_eq_true, Bool.or_eq_true, Bool.not_eq_true', decide_eq_true_eq, decide_eq_false_iff_not, beq_iff_eq, bne_iff_ne, ne_eq, Bool.not_eq_eq_eq_not, Bool.not_true, Bool.not_false, beq_eq_false_iff_ne, bne_eq_false_iff_eq, Bool.and_eq_false_imp, Bool.or_eq_false_iff, Bool.cond_false_right, Bool.cond_true_left, Bool.cond_false_left, Bool.cond_true_right, gt_iff_lt, ge_iff_le, true_and] at h; first | exact h | omega) | omega | simpa using h
        have hg : lngC c = true := decide_eq_true h
        rw [if_pos hg] at hk hL1
        subst hk hL1
        refine WA.regionK ty_ok hs fun K hK => ?_
        simp only [go_sem, Nat.reduceAdd, Nat.reduceLT, Nat.reduceLeDiff, Nat.reduceEqDiff, Nat.reduceSub, Nat.reduceMul, Nat.reduceBEq, Nat.reduceBNe, Nat.reducePow, Nat.reduceDiv, Int.reduceLE, Int.reduceLT, Int.reduceToNat, Int.reduceNeg, Int.reduceAdd, Int.reduceSub, Int.reduceEq, reduceIte, reduceCtorEq, UInt8.reduceOfNat, true_and]
        first
        | refine hK _ ?_
        | refine And.intro (by first | omega | (simp; done) | (simp; omega) | (simp +contextual; done) | (simp_all; done) | (simp_all; omega)) (hK _ ?_)
        clear hK K
        refine WA.regionE ty_ok hs fun K hK => ?_
        simp only [go_sem, Nat.reduceAdd, Nat.reduceLT, Nat.reduceLeDiff, Nat.reduceEqDiff, Nat.reduceSub, Nat.reduceMul, Nat.reduceBEq, Nat.reduceBNe, Nat.reducePow, Nat.reduceDiv, Int.reduceLE, Int.reduceLT, Int.reduceToNat, Int.reduceNeg, Int.reduceAdd, Int.reduceSub, Int.reduceEq, reduceIte, reduceCtorEq, UInt8.reduceOfNat, true_and]
        refine hK _ (WN.mk ?_)
        repeat with_reducible refine WN.b ?_
        refine WN.join hX (fun k => if k = 3000 then 2264 else k) (()) (trivial) (by simp only [go_sem, Int.natCast_add, Nat.reduceAdd, Nat.reduceLT, Nat.reduceLeDiff, Nat.reduceEqDiff, Nat.reduceSub, Nat.reduceMul, Nat.reduceBEq, Nat.reduceBNe, Nat.reducePow, Nat.reduceDiv, Int.reduceLE, Int.reduceLT, Int.reduceToNat, Int.reduceNeg, Int.reduceAdd, Int.reduceSub, Int.reduceEq, reduceIte, reduceCtorEq, UInt8.reduceOfNat, hdC, byt] <;> (try and_intros) <;> (try omega))
      ·
        have h : ¬ (255 < (c.data.length : Int) ∨ 256 < c.exp) := by first | (simp only [Bool.and_eq_true, Bool.or_eq_true, Bool.not_eq_true', decide_eq_true_eq, decide_eq_false_iff_not, beq_iff_eq, bne_iff_ne, ne_eq, Bool.not_eq_eq_eq_not, Bool.not_true, Bool.not_false, beq_eq_false_iff_ne, bne_eq_false_iff_eq, Bool.and_eq_false_imp, Bool.or_eq_false_iff, Bool.cond_false_right, Bool.cond_true_left, Bool.cond_false_left, Bool.cond_true_right, gt_iff_lt, ge_iff_le, true_and] at h; first | exact h | omega) | omega | simpa using h
        have hg : lngC c = false := decide_eq_false h
        rw [hg] at hk hL1
        simp only [Bool.false_eq_true, reduceIte, List.append_nil] at hk hL1
        subst hk hL1
        refine WA.skipN ?_
        repeat with_reducible refine WN.b ?_
        refine WN.join hX (fun k => if k = 3000 then 2144 else k) (()) (trivial) (by simp only [go_sem, Int.natCast_add, Nat.reduceAdd, Nat.reduceLT, Nat.reduceLeDiff, Nat.reduceEqDiff, Nat.reduceSub, Nat.reduceMul, Nat.reduceBEq, Nat.reduceBNe, Nat.reducePow, Nat.reduceDiv, Int.reduceLE, Int.reduceLT, Int.reduceToNat, Int.reduceNeg, Int.reduceAdd, Int.reduceSub, Int.reduceEq, reduceIte, reduceCtorEq, UInt8.reduceOfNat, hdC, byt] <;> (try and_intros) <;> (try omega))
    rintro - -
    obtain ⟨L2, hL2⟩ : ∃ L2, L1 ++ (if c.data = [] then [] else bn (lngC c) c.data.length ++ c.data) = L2 := ⟨_, rfl⟩
    have l1 : L1.length ≤ 5 := by rw [← hL1]; cases lngC c <;> simp [hdC]
    have l3 : ∀ n, (bn (lngC c) n).length ≤ 2 := fun n => by cases lngC c <;> simp [bn, b1, b2]
    have eB : encB c = L2 ++ (if c.exp = -1 then [] else bn (lngC c) c.exp) := by rw [← hL2, ← hL1]; rfl
    rw [eB]
    refine WA.join (fun (_ : Unit) => ⟨[(1, .ptr 2000 0 0), (4, .sl 3000 1 0 (List.length L2)), (5, .lit (.int .i64 k))], [(3000, ⟨.by_ L2, 0, false⟩), (2000, ⟨.li 6 [.agg [.lit (.int .i64 c.cls), .lit (.int .i64 c.ins), .lit (.int .i64 c.p1), .lit (.int .i64 c.p2), .by_ c.data, .lit (.int .i64 c.exp)]], 0, false⟩)], 4000, 59⟩) (fun _ => True) ?_ ?_
    ·
      refine WA.regionK ty_ok hs fun K hK => ?_
      simp only [go_sem, Nat.reduceAdd, Nat.reduceLT, Nat.reduceLeDiff, Nat.reduceEqDiff, Nat.reduceSub, Nat.reduceMul, Nat.reduceBEq, Nat.reduceBNe, Nat.reducePow, Nat.reduceDiv, Int.reduceLE, Int.reduceLT, Int.reduceToNat, Int.reduceNeg, Int.reduceAdd, Int.reduceSub, Int.reduceEq, reduceIte, reduceCtorEq, UInt8.reduceOfNat, true_and]
      first
      | refine hK _ ?_
      | refine And.intro (by first | omega | (simp; done) | (simp; omega) | (simp +contextual; done) | (simp_all; done) | (simp_all; omega)) (hK _ ?_)
      clear hK K
      refine WA.cond rfl (fun h => ?_) (fun h => ?_)
      ·
        have h : 0 < (c.data.length : Int) := by first | (simp only [Bool.and_eq_true, Bool.or_eq_true, Bool.not_eq_true', decide_eq_true_eq, decide_eq_false_iff_not, beq_iff_eq, bne_iff_ne, ne_eq, Bool.not_eq_eq_eq_not, Bool.not_true, Bool.not_false, beq_eq_false_iff_ne, bne_eq_false_iff_eq, Bool.and_eq_false_imp, Bool.or_eq_false_iff, Bool.cond_false_right, Bool.cond_true_left, Bool.cond_false_left, Bool.cond_true_right, gt_iff_lt, ge_iff_le, true_and] at h; first | exact h | omega) | omega | simpa using h
        have hd : ¬ c.data = [] := fun q => by rw [q] at h; exact absurd h (by decide)
        rw [if_neg hd] at hL2
        subst hL2
        have l4 := l3 c.data.length
        refine WA.regionK ty_ok hs fun K hK => ?_
        simp only [go_sem, Nat.reduceAdd, Nat.reduceLT, Nat.reduceLeDiff, Nat.reduceEqDiff, Nat.reduceSub, Nat.reduceMul, Nat.reduceBEq, Nat.reduceBNe, Nat.reducePow, Nat.reduceDiv, Int.reduceLE, Int.reduceLT, Int.reduceToNat, Int.reduceNeg, Int.reduceAdd, Int.reduceSub, Int.reduceEq, reduceIte, reduceCtorEq, UInt8.reduceOfNat, sgE, hbn]
        first
        | refine hK _ ?_
        | refine And.intro (by first | omega | (simp; done) | (simp; omega) | (simp +contextual; done) | (simp_all; done) | (simp_all; omega)) (hK _ ?_)
        clear hK K
        refine WA.regionE ty_ok hs fun K hK => ?_
        simp only [go_sem, Nat.reduceAdd, Nat.reduceLT, Nat.reduceLeDiff, Nat.reduceEqDiff, Nat.reduceSub, Nat.reduceMul, Nat.reduceBEq, Nat.reduceBNe, Nat.reducePow, Nat.reduceDiv, Int.reduceLE, Int.reduceLT, Int.reduceToNat, Int.reduceNeg, Int.reduceAdd, Int.reduceSub, Int.reduceEq, reduceIte, reduceCtorEq, UInt8.reduceOfNat, sgE, hbn]
        repeat refine And.intro (by first | omega | assumption | (simp; done) | (simp; omega) | (simp +contextual; done) | (simp_all; done) | (simp_all; omega)) ?_
        refine hK _ (WN.mk ?_)
        repeat with_reducible refine WN.b ?_
        refine WN.join hX (fun k => if k = 3000 then 4120 else k) (()) (trivial) (by simp only [go_sem, Int.natCast_add, Nat.reduceAdd, Nat.reduceLT, Nat.reduceLeDiff, Nat.reduceEqDiff, Nat.reduceSub, Nat.reduceMul, Nat.reduceBEq, Nat.reduceBNe, Nat.reducePow, Nat.reduceDiv, Int.reduceLE, Int.reduceLT, Int.reduceToNat, Int.reduceNeg, Int.reduceAdd, Int.reduceSub, Int.reduceEq, reduceIte, reduceCtorEq, UInt8.reduceOfNat, List.append_assoc] <;> (try and_intros) <;> (try omega))
      ·
        have h : ¬ 0 < (c.data.length : Int) := by first | (simp only [Bool.and_eq_true, Bool.or_eq_true, Bool.not_eq_true', decide_eq_true_eq, decide_eq_false_iff_not, beq_iff_eq, bne_iff_ne, ne_eq, Bool.not_eq_eq_eq_not, Bool.not_true, Bool.not_false, beq_eq_false_iff_ne, bne_eq_false_iff_eq, Bool.and_eq_false_imp, Bool.or_eq_false_iff, Bool.cond_false_right, Bool.cond_true_left, Bool.cond_false_left, Bool.cond_true_right, gt_iff_lt, ge_iff_le, true_and] at h; first | exact h | omega) | omega | simpa using h
        have hd : c.data = [] := List.length_eq_zero_iff.1 (by omega)
        rw [if_pos hd, List.append_nil] at hL2
        subst hL2
        refine WA.skipN ?_
        repeat with_reducible refine WN.b ?_
        refine WN.join hX (fun k => k) (()) (trivial) (by simp only [go_sem, Int.natCast_add, Nat.reduceAdd, Nat.reduceLT, Nat.reduceLeDiff, Nat.reduceEqDiff, Nat.reduceSub, Nat.reduceMul, Nat.reduceBEq, Nat.reduceBNe, Nat.reducePow, Nat.reduceDiv, Int.reduceLE, Int.reduceLT, Int.reduceToNat, Int.reduceNeg, Int.reduceAdd, Int.reduceSub, Int.reduceEq, reduceIte, reduceCtorEq, UInt8.reduceOfNat, true_and] <;> (try and_intros) <;> (try omega))
    rintro - -
    have l2 : L2.length ≤ 5 + 2 + 4096 := by
      have := l3 c.data.length
      rw [← hL2]
      split
      · simp; omega
      · simp; omega
    refine WA.seq ?_
    refine WA.regionK ty_ok hs fun K hK => ?_
    simp only [go_sem, Nat.reduceAdd, Nat.reduceLT, Nat.reduceLeDiff, Nat.reduceEqDiff, Nat.reduceSub, Nat.reduceMul, Nat.reduceBEq, Nat.reduceBNe, Nat.reducePow, Nat.reduceDiv, Int.reduceLE, Int.reduceLT, Int.reduceToNat, Int.reduceNeg, Int.reduceAdd, Int.reduceSub, Int.reduceEq, reduceIte, reduceCtorEq, UInt8.reduceOfNat, true_and]
    first
    | refine hK _ ?_
    | refine And.intro (by first | omega | (simp; done) | (simp; omega) | (simp +contextual; done) | (simp_all; done) | (simp_all; omega)) (hK _ ?_)
    clear hK K
    refine WA.cond rfl (fun h => ?_) (fun h => ?_)
    ·
      have h : ¬ c.exp = -1 := by first | (simp only [Bool.and_eq_true, Bool.or_eq_true, Bool.not_eq_true', decide_eq_true_eq, decide_eq_false_iff_not, beq_iff_eq, bne_iff_ne, ne_eq, Bool.not_eq_eq_eq_not, Bool.not_true, Bool.not_false, beq_eq_false_iff_ne, bne_eq_false_iff_eq, Bool.and_eq_false_imp, Bool.or_eq_false_iff, Bool.cond_false_right, Bool.cond_true_left, Bool.cond_false_left, Bool.cond_true_right, gt_iff_lt, ge_iff_le, true_and] at h; first | exact h | omega) | omega | simpa using h
      have l4 := l3 c.exp
      rw [if_neg h]
      refine WA.regionE ty_ok hs fun K hK => ?_
      simp only [go_sem, Nat.reduceAdd, Nat.reduceLT, Nat.reduceLeDiff, Nat.reduceEqDiff, Nat.reduceSub, Nat.reduceMul, Nat.reduceBEq, Nat.reduceBNe, Nat.reducePow, Nat.reduceDiv, Int.reduceLE, Int.reduceLT, Int.reduceToNat, Int.reduceNeg, Int.reduceAdd, Int.reduceSub, Int.reduceEq, reduceIte, reduceCtorEq, UInt8.reduceOfNat, sgE, hbn]
      repeat refine And.intro (by first | omega | assumption | (simp; done) | (simp; omega) | (simp +contextual; done) | (simp_all; done) | (simp_all; omega)) ?_
      with_reducible refine hK _ (WN.mk ?_)
      clear hK K
      repeat first | with_reducible refine WN.t ?_ | with_reducible refine WN.b ?_
      refine WA.regionK ty_ok hs fun K hK => ?_
      simp only [go_sem, Nat.reduceAdd, Nat.reduceLT, Nat.reduceLeDiff, Nat.reduceEqDiff, Nat.reduceSub, Nat.reduceMul, Nat.reduceBEq, Nat.reduceBNe, Nat.reducePow, Nat.reduceDiv, Int.reduceLE, Int.reduceLT, Int.reduceToNat, Int.reduceNeg, Int.reduceAdd, Int.reduceSub, Int.reduceEq, reduceIte, reduceCtorEq, UInt8.reduceOfNat, true_and]
      first
      | refine hK _ ?_
      | refine And.intro (by first | omega | (simp; done) | (simp; omega) | (simp +contextual; done) | (simp_all; done) | (simp_all; omega)) (hK _ ?_)
      clear hK K
      refine WA.retE ty_ok (xs := [.by_ (L2 ++ bn (lngC c) c.exp), .lit (.int .i64 0)]) (ls' := []) (rv := [.tmp 2, .tmp 3]) rfl hX (by decide) (fun _ => rfl) (fun _ _ h => h) ?_
      simp only [go_sem, Nat.reduceAdd, Nat.reduceLT, Nat.reduceLeDiff, Nat.reduceEqDiff, Nat.reduceSub, Nat.reduceMul, Nat.reduceBEq, Nat.reduceBNe, Nat.reducePow, Nat.reduceDiv, Int.reduceLE, Int.reduceLT, Int.reduceToNat, Int.reduceNeg, Int.reduceAdd, Int.reduceSub, Int.reduceEq, reduceIte, reduceCtorEq, UInt8.reduceOfNat, sbT]
      all_goals (first | done | exact Nat.le_refl _ | (simp; done) | (and_intros <;> first | omega | exact Nat.le_refl _ | (simp; done) | (simp; omega)))
    ·
      have h : c.exp = -1 := by first | (simp only [Bool.and_eq_true, Bool.or_eq_true, Bool.not_eq_true', decide_eq_true_eq, decide_eq_false_iff_not, beq_iff_eq, bne_iff_ne, ne_eq, Bool.not_eq_eq_eq_not, Bool.not_true, Bool.not_false, beq_eq_false_iff_ne, bne_eq_false_iff_eq, Bool.and_eq_false_imp, Bool.or_eq_false_iff, Bool.cond_false_right, Bool.cond_true_left, Bool.cond_false_left, Bool.cond_true_right, gt_iff_lt, ge_iff_le, true_and] at h; first | exact h | omega) | omega | simpa using h
      rw [if_pos h, List.append_nil]
      with_reducible refine WA.skipN ?_
      repeat first | with_reducible refine WN.t ?_ | with_reducible refine WN.b ?_
      refine WA.regionK ty_ok hs fun K hK => ?_
      simp only [go_sem, Nat.reduceAdd, Nat.reduceLT, Nat.reduceLeDiff, Nat.reduceEqDiff, Nat.reduceSub, Nat.reduceMul, Nat.reduceBEq, Nat.reduceBNe, Nat.reducePow, Nat.reduceDiv, Int.reduceLE, Int.reduceLT, Int.reduceToNat, Int.reduceNeg, Int.reduceAdd, Int.reduceSub, Int.reduceEq, reduceIte, reduceCtorEq, UInt8.reduceOfNat, true_and]
      first
      | refine hK _ ?_
      | refine And.intro (by first | omega | (simp; done) | (simp; omega) | (simp +contextual; done) | (simp_all; done) | (simp_all; omega)) (hK _ ?_)
      clear hK K
      refine WA.retE ty_ok (xs := [.by_ L2, .lit (.int .i64 0)]) (ls' := []) (rv := [.tmp 2, .tmp 3]) rfl hX (by decide) (fun _ => rfl) (fun _ _ h => h) ?_
      simp only [go_sem, Nat.reduceAdd, Nat.reduceLT, Nat.reduceLeDiff, Nat.reduceEqDiff, Nat.reduceSub, Nat.reduceMul, Nat.reduceBEq, Nat.reduceBNe, Nat.reducePow, Nat.reduceDiv, Int.reduceLE, Int.reduceLT, Int.reduceToNat, Int.reduceNeg, Int.reduceAdd, Int.reduceSub, Int.reduceEq, reduceIte, reduceCtorEq, UInt8.reduceOfNat, sbT]
      all_goals (first | done | exact Nat.le_refl _ | (simp; done) | (and_intros <;> first | omega | exact Nat.le_refl _ | (simp; done) | (simp; omega)))

theorem rencode_s (c : Cm) : FnS Try.prog 10 [.agg [.lit (.int .i64 c.cls), .lit (.int .i64 c.ins), .lit (.int .i64 c.p1), .lit (.int .i64 c.p2), .by_ c.data, .lit (.int .i64 c.exp)]] [] (.tup [.by_ (encV c), .lit (.int .i64 (encE c))]) [] := by
  have hs := sgE_ok
  have hC : (⟨c.cls, c.ins, c.p1, c.p2, c.data, c.exp⟩ : Cm) = c := rfl
  refine FnS.of Try.func10 rfl (N := 82) rfl (by simp) (by simp) fun X hX => ?_
  simp only [tmArgs, lentH, Nat.reduceAdd]
  refine WA.regionK ty_ok hs fun K hK => ?_
  simp only [go_sem, Nat.reduceAdd, Nat.reduceLT, Nat.reduceLeDiff, Nat.reduceEqDiff, Nat.reduceSub, Nat.reduceMul, Nat.reduceBEq, Nat.reduceBNe, Nat.reducePow, Nat.reduceDiv, Int.reduceLE, Int.reduceLT, Int.reduceToNat, Int.reduceNeg, Int.reduceAdd, Int.reduceSub, Int.reduceEq, reduceIte, reduceCtorEq, UInt8.reduceOfNat, true_and]
  first
  | refine hK _ ?_
  | refine And.intro (by first | omega | (simp; done) | (simp; omega) | (simp +contextual; done) | (simp_all; done) | (simp_all; omega)) (hK _ ?_)
  clear hK K
  refine WA.seq ?_
  refine WA.regionK ty_ok hs fun K hK => ?_
  simp only [go_sem, Nat.reduceAdd, Nat.reduceLT, Nat.reduceLeDiff, Nat.reduceEqDiff, Nat.reduceSub, Nat.reduceMul, Nat.reduceBEq, Nat.reduceBNe, Nat.reducePow, Nat.reduceDiv, Int.reduceLE, Int.reduceLT, Int.reduceToNat, Int.reduceNeg, Int.reduceAdd, Int.reduceSub, Int.reduceEq, reduceIte, reduceCtorEq, UInt8.reduceOfNat, sgE, hC]
  first
  | refine hK _ ?_
  | refine And.intro (by first | omega | (simp; done) | (simp; omega) | (simp +contextual; done) | (simp_all; done) | (simp_all; omega)) (hK _ ?_)
  clear hK K
  refine WA.cond rfl (fun h => ?_) (fun h => ?_)
  ·
    have hv : ¬ ValC c := by simpa [valC] using h
    have e1 : encV c = [] := if_neg hv
    have e2 : encE c = 14 := if_neg hv
    refine WA.regionK ty_ok hs fun K hK => ?_
    simp only [go_sem, Nat.reduceAdd, Nat.reduceLT, Nat.reduceLeDiff, Nat.reduceEqDiff, Nat.reduceSub, Nat.reduceMul, Nat.reduceBEq, Nat.reduceBNe, Nat.reducePow, Nat.reduceDiv, Int.reduceLE, Int.reduceLT, Int.reduceToNat, Int.reduceNeg, Int.reduceAdd, Int.reduceSub, Int.reduceEq, reduceIte, reduceCtorEq, UInt8.reduceOfNat, true_and]
    first
    | refine hK _ ?_
    | refine And.intro (by first | omega | (simp; done) | (simp; omega) | (simp +contextual; done) | (simp_all; done) | (simp_all; omega)) (hK _ ?_)
    clear hK K
    refine WA.retE ty_ok (xs := [.by_ (encV c), .lit (.int .i64 (encE c))]) (ls' := []) (rv := [.tmp 2, .tmp 3]) rfl hX (by decide) (fun _ => rfl) (fun _ _ h => h) ?_
    simp only [go_sem, Nat.reduceAdd, Nat.reduceLT, Nat.reduceLeDiff, Nat.reduceEqDiff, Nat.reduceSub, Nat.reduceMul, Nat.reduceBEq, Nat.reduceBNe, Nat.reducePow, Nat.reduceDiv, Int.reduceLE, Int.reduceLT, Int.reduceToNat, Int.reduceNeg, Int.reduceAdd, Int.reduceSub, Int.reduceEq, reduceIte, reduceCtorEq, UInt8.reduceOfNat, sbT, e1, e2]
  ·
    have hv : ValC c := by simpa [valC] using h
    clear h
    have e1 : encV c = encB c := if_pos hv
    have e2 : encE c = 0 := if_pos hv
    rw [e1, e2]
    obtain ⟨-, -, hl, hx⟩ := hv
    with_reducible refine WA.skipN ?_
    repeat first | with_reducible refine WN.t ?_ | with_reducible refine WN.b ?_
    refine WA.regionK ty_ok hs fun K hK => ?_
    simp only [go_sem, Nat.reduceAdd, Nat.reduceLT, Nat.reduceLeDiff, Nat.reduceEqDiff, Nat.reduceSub, Nat.reduceMul, Nat.reduceBEq, Nat.reduceBNe, Nat.reducePow, Nat.reduceDiv, Int.reduceLE, Int.reduceLT, Int.reduceToNat, Int.reduceNeg, Int.reduceAdd, Int.reduceSub, Int.reduceEq, reduceIte, reduceCtorEq, UInt8.reduceOfNat, true_and]
    first
    | refine hK _ ?_
    | refine And.intro (by first | omega | (simp; done) | (simp; omega) | (simp +contextual; done) | (simp_all; done) | (simp_all; omega)) (hK _ ?_)
    clear hK K
    refine WA.regionK ty_ok hs fun K hK => ?_
    simp only [go_sem, Nat.reduceAdd, Nat.reduceLT, Nat.reduceLeDiff, Nat.reduceEqDiff, Nat.reduceSub, Nat.reduceMul, Nat.reduceBEq, Nat.reduceBNe, Nat.reducePow, Nat.reduceDiv, Int.reduceLE, Int.reduceLT, Int.reduceToNat, Int.reduceNeg, Int.reduceAdd, Int.reduceSub, Int.reduceEq, reduceIte, reduceCtorEq, UInt8.reduceOfNat, true_and]
    first
    | refine hK _ ?_
    | refine And.intro (by first | omega | (simp; done) | (simp; omega) | (simp +contextual; done) | (simp_all; done) | (simp_all; omega)) (hK _ ?_)
    clear hK K
    refine WA.seq ?_
    refine WA.regionK ty_ok hs fun K hK => ?_
    simp only [go_sem, Nat.reduceAdd, Nat.reduceLT, Nat.reduceLeDiff, Nat.reduceEqDiff, Nat.reduceSub, Nat.reduceMul, Nat.reduceBEq, Nat.reduceBNe, Nat.reducePow, Nat.reduceDiv, Int.reduceLE, Int.reduceLT, Int.reduceToNat, Int.reduceNeg, Int.reduceAdd, Int.reduceSub, Int.reduceEq, reduceIte, reduceCtorEq, UInt8.reduceOfNat, true_and]
    first
    | refine hK _ ?_
    | refine And.intro (by first | omega | (simp; done) | (simp; omega) | (simp +contextual; done) | (simp_all; done) | (simp_all; omega)) (hK _ ?_)
    clear hK K
    refine WA.cond rfl (fun h => ?_) (fun h => ?_)
    ·
      have h : ¬ (255 < (c.data.length : Int) ∨ 256 < c.exp) := by first | (simp only [Bool.and_eq_true, Bool.or_eq_true, Bool.not_eq_true', decide_eq_true_eq, decide_eq_false_iff_not, beq_iff_eq, bne_iff_ne, ne_eq, Bool.not_eq_eq_eq_not, Bool.not_true, Bool.not_false, beq_eq_false_iff_ne, bne_eq_false_iff_eq, Bool.and_eq_false_imp, Bool.or_eq_false_iff, Bool.cond_false_right, Bool.cond_true_left, Bool.cond_false_left, Bool.cond_true_right, gt_iff_lt, ge_iff_le, true_and] at h; first | exact h | omega) | omega | simpa using h
      have hg : lngC c = false := decide_eq_false h
      obtain ⟨L2, hL2⟩ : ∃ L2, hdC c ++ (if c.data = [] then [] else b1 c.data.length ++ c.data) = L2 := ⟨_, rfl⟩
      have eB : encB c = L2 ++ (if c.exp = -1 then [] else b1 c.exp) := by rw [← hL2]; unfold encB; rw [hg]; simp [bn]
      rw [eB]
      refine WA.join (fun (_ : Unit) => ⟨[(1, .ptr 2000 0 0), (4, .sl 3000 1 0 (List.length L2)), (5, .lit (.int .i64 (c.data.length : Nat)))], [(3000, ⟨.by_ L2, 0, false⟩), (2000, ⟨.li 6 [.agg [.lit (.int .i64 c.cls), .lit (.int .i64 c.ins), .lit (.int .i64 c.p1), .lit (.int .i64 c.p2), .by_ c.data, .lit (.int .i64 c.exp)]], 0, false⟩)], 4000, 82⟩) (fun _ => True) ?_ ?_
      ·
        refine WA.regionK ty_ok hs fun K hK => ?_
        simp only [go_sem, Nat.reduceAdd, Nat.reduceLT, Nat.reduceLeDiff, Nat.reduceEqDiff, Nat.reduceSub, Nat.reduceMul, Nat.reduceBEq, Nat.reduceBNe, Nat.reducePow, Nat.reduceDiv, Int.reduceLE, Int.reduceLT, Int.reduceToNat, Int.reduceNeg, Int.reduceAdd, Int.reduceSub, Int.reduceEq, reduceIte, reduceCtorEq, UInt8.reduceOfNat, true_and]
        first
        | refine hK _ ?_
        | refine And.intro (by first | omega | (simp; done) | (simp; omega) | (simp +contextual; done) | (simp_all; done) | (simp_all; omega)) (hK _ ?_)
        clear hK K
        refine WA.cond rfl (fun h => ?_) (fun h => ?_)
        ·
          have h : 0 < (c.data.length : Int) := by first | (simp only [Bool.and_eq_true, Bool.or_eq_true, Bool.not_eq_true', decide_eq_true_eq, decide_eq_false_iff_not, beq_iff_eq, bne_iff_ne, ne_eq, Bool.not_eq_eq_eq_not, Bool.not_true, Bool.not_false, beq_eq_false_iff_ne, bne_eq_false_iff_eq, Bool.and_eq_false_imp, Bool.or_eq_false_iff, Bool.cond_false_right, Bool.cond_true_left, Bool.cond_false_left, Bool.cond_true_right, gt_iff_lt, ge_iff_le, true_and] at h; first | exact h | omega) | omega | simpa using h
          have hd : ¬ c.data = [] := fun q => by rw [q] at h; exact absurd h (by decide)
          rw [if_neg hd] at hL2
          subst hL2
          refine WA.drawn2 mixed_ ty_ok hs (tbl := [[], [], [1], [1, 2], [0, 1, 2, 3], [], [5], [0, 1, 2, 3, 4, 5, 6], [0, 1, 2, 3, 4, 5, 6, 7]]) (nb := [4, 6, 7]) (hk := [[], [], [], [], [], [], [2144], [], []]) (by kernel_rfl) fun K hK => ?_
          simp only [go_sem, Nat.reduceAdd, Nat.reduceLT, Nat.reduceLeDiff, Nat.reduceEqDiff, Nat.reduceSub, Nat.reduceMul, Nat.reduceBEq, Nat.reduceBNe, Nat.reducePow, Nat.reduceDiv, Int.reduceLE, Int.reduceLT, Int.reduceToNat, Int.reduceNeg, Int.reduceAdd, Int.reduceSub, Int.reduceEq, reduceIte, reduceCtorEq, UInt8.reduceOfNat, true_and]
          repeat refine And.intro (by first | omega | assumption | (simp; done) | (simp; omega) | (simp +contextual; done) | (simp_all; done) | (simp_all; omega)) ?_
          refine hK _ (WN.mk ?_)
          repeat with_reducible refine WN.b ?_
          refine WN.join hX (fun k => if k = 3000 then 2320 else k) (()) (trivial) (by simp only [go_sem, Int.natCast_add, Nat.reduceAdd, Nat.reduceLT, Nat.reduceLeDiff, Nat.reduceEqDiff, Nat.reduceSub, Nat.reduceMul, Nat.reduceBEq, Nat.reduceBNe, Nat.reducePow, Nat.reduceDiv, Int.reduceLE, Int.reduceLT, Int.reduceToNat, Int.reduceNeg, Int.reduceAdd, Int.reduceSub, Int.reduceEq, reduceIte, reduceCtorEq, UInt8.reduceOfNat, hdC, b1, byt] <;> (try and_intros) <;> (try omega))
        ·
          have h : ¬ 0 < (c.data.length : Int) := by first | (simp only [Bool.and_eq_true, Bool.or_eq_true, Bool.not_eq_true', decide_eq_true_eq, decide_eq_false_iff_not, beq_iff_eq, bne_iff_ne, ne_eq, Bool.not_eq_eq_eq_not, Bool.not_true, Bool.not_false, beq_eq_false_iff_ne, bne_eq_false_iff_eq, Bool.and_eq_false_imp, Bool.or_eq_false_iff, Bool.cond_false_right, Bool.cond_true_left, Bool.cond_false_left, Bool.cond_true_right, gt_iff_lt, ge_iff_le, true_and] at h; first | exact h | omega) | omega | simpa using h
          have hd : c.data = [] := List.length_eq_zero_iff.1 (by omega)
          rw [if_pos hd, List.append_nil] at hL2
          subst hL2
          refine WA.skipN ?_
          repeat with_reducible refine WN.b ?_
          refine WN.join hX (fun k => if k = 3000 then 2144 else k) (()) (trivial) (by simp only [go_sem, Int.natCast_add, Nat.reduceAdd, Nat.reduceLT, Nat.reduceLeDiff, Nat.reduceEqDiff, Nat.reduceSub, Nat.reduceMul, Nat.reduceBEq, Nat.reduceBNe, Nat.reducePow, Nat.reduceDiv, Int.reduceLE, Int.reduceLT, Int.reduceToNat, Int.reduceNeg, Int.reduceAdd, Int.reduceSub, Int.reduceEq, reduceIte, reduceCtorEq, UInt8.reduceOfNat, hdC, byt] <;> (try and_intros) <;> (try omega))
      rintro - -
      have l2 : L2.length ≤ 5 + 4096 := by
        rw [← hL2]
        split
        · simp [hdC]
        · simp [hdC, b1]; omega
      refine WA.seq ?_
      refine WA.regionK ty_ok hs fun K hK => ?_
      simp only [go_sem, Nat.reduceAdd, Nat.reduceLT, Nat.reduceLeDiff, Nat.reduceEqDiff, Nat.reduceSub, Nat.reduceMul, Nat.reduceBEq, Nat.reduceBNe, Nat.reducePow, Nat.reduceDiv, Int.reduceLE, Int.reduceLT, Int.reduceToNat, Int.reduceNeg, Int.reduceAdd, Int.reduceSub, Int.reduceEq, reduceIte, reduceCtorEq, UInt8.reduceOfNat, true_and]
      first
      | refine hK _ ?_
      | refine And.intro (by first | omega | (simp; done) | (simp; omega) | (simp +contextual; done) | (simp_all; done) | (simp_all; omega)) (hK _ ?_)
      clear hK K
      refine WA.cond rfl (fun h => ?_) (fun h => ?_)
      ·
        have h : ¬ c.exp = -1 := by first | (simp only [Bool.and_eq_true, Bool.or_eq_true, Bool.not_eq_true', decide_eq_true_eq, decide_eq_false_iff_not, beq_iff_eq, bne_iff_ne, ne_eq, Bool.not_eq_eq_eq_not, Bool.not_true, Bool.not_false, beq_eq_false_iff_ne, bne_eq_false_iff_eq, Bool.and_eq_false_imp, Bool.or_eq_false_iff, Bool.cond_false_right, Bool.cond_true_left, Bool.cond_false_left, Bool.cond_true_right, gt_iff_lt, ge_iff_le, true_and] at h; first | exact h | omega) | omega | simpa using h
        rw [if_neg h]
        refine WA.regionE ty_ok hs fun K hK => ?_
        simp only [go_sem, Nat.reduceAdd, Nat.reduceLT, Nat.reduceLeDiff, Nat.reduceEqDiff, Nat.reduceSub, Nat.reduceMul, Nat.reduceBEq, Nat.reduceBNe, Nat.reducePow, Nat.reduceDiv, Int.reduceLE, Int.reduceLT, Int.reduceToNat, Int.reduceNeg, Int.reduceAdd, Int.reduceSub, Int.reduceEq, reduceIte, reduceCtorEq, UInt8.reduceOfNat, true_and]
        repeat refine And.intro (by first | omega | assumption | (simp; done) | (simp; omega) | (simp +contextual; done) | (simp_all; done) | (simp_all; omega)) ?_
        with_reducible refine hK _ (WN.mk ?_)
        clear hK K
        repeat first | with_reducible refine WN.t ?_ | with_reducible refine WN.b ?_
        refine WA.regionK ty_ok hs fun K hK => ?_
        simp only [go_sem, Nat.reduceAdd, Nat.reduceLT, Nat.reduceLeDiff, Nat.reduceEqDiff, Nat.reduceSub, Nat.reduceMul, Nat.reduceBEq, Nat.reduceBNe, Nat.reducePow, Nat.reduceDiv, Int.reduceLE, Int.reduceLT, Int.reduceToNat, Int.reduceNeg, Int.reduceAdd, Int.reduceSub, Int.reduceEq, reduceIte, reduceCtorEq, UInt8.reduceOfNat, true_and]
        first
        | refine hK _ ?_
        | refine And.intro (by first | omega | (simp; done) | (simp; omega) | (simp +contextual; done) | (simp_all; done) | (simp_all; omega)) (hK _ ?_)
        clear hK K
        refine WA.retE ty_ok (xs := [.by_ (L2 ++ b1 c.exp), .lit (.int .i64 0)]) (ls' := []) (rv := [.tmp 2, .tmp 3]) rfl hX (by decide) (fun _ => rfl) (fun _ _ h => h) ?_
        simp only [go_sem, Nat.reduceAdd, Nat.reduceLT, Nat.reduceLeDiff, Nat.reduceEqDiff, Nat.reduceSub, Nat.reduceMul, Nat.reduceBEq, Nat.reduceBNe, Nat.reducePow, Nat.reduceDiv, Int.reduceLE, Int.reduceLT, Int.reduceToNat, Int.reduceNeg, Int.reduceAdd, Int.reduceSub, Int.reduceEq, reduceIte, reduceCtorEq, UInt8.reduceOfNat, sbT, b1, byt]
        all_goals (first | done | exact Nat.le_refl _ | (simp; done) | (and_intros <;> first | omega | exact Nat.le_refl _ | (simp; done) | (simp; omega)))
      ·
        have h : c.exp = -1 := by first | (simp only [Bool.and_eq_true, Bool.or_eq_true, Bool.not_eq_true', decide_eq_true_eq, decide_eq_false_iff_not, beq_iff_eq, bne_iff_ne, ne_eq, Bool.not_eq_eq_eq_not, Bool.not_true, Bool.not_false, beq_eq_false_iff_ne, bne_eq_false_iff_eq, Bool.and_eq_false_imp, Bool.or_eq_false_iff, Bool.cond_false_right, Bool.cond_true_left, Bool.cond_false_left, Bool.cond_true_right, gt_iff_lt, ge_iff_le, true_and] at h; first | exact h | omega) | omega | simpa using h
        rw [if_pos h, List.append_nil]
        with_reducible refine WA.skipN ?_
        repeat first | with_reducible refine WN.t ?_ | with_reducible refine WN.b ?_
        refine WA.regionK ty_ok hs fun K hK => ?_
        simp only [go_sem, Nat.reduceAdd, Nat.reduceLT, Nat.reduceLeDiff, Nat.reduceEqDiff, Nat.reduceSub, Nat.reduceMul, Nat.reduceBEq, Nat.reduceBNe, Nat.reducePow, Nat.reduceDiv, Int.reduceLE, Int.reduceLT, Int.reduceToNat, Int.reduceNeg, Int.reduceAdd, Int.reduceSub, Int.reduceEq, reduceIte, reduceCtorEq, UInt8.reduceOfNat, true_and]
        first
        | refine hK _ ?_
        | refine And.intro (by first | omega | (simp; done) | (simp; omega) | (simp +contextual; done) | (simp_all; done) | (simp_all; omega)) (hK _ ?_)
        clear hK K
        refine WA.retE ty_ok (xs := [.by_ L2, .lit (.int .i64 0)]) (ls' := []) (rv := [.tmp 2, .tmp 3]) rfl hX (by decide) (fun _ => rfl) (fun _ _ h => h) ?_
        simp only [go_sem, Nat.reduceAdd, Nat.reduceLT, Nat.reduceLeDiff, Nat.reduceEqDiff, Nat.reduceSub, Nat.reduceMul, Nat.reduceBEq, Nat.reduceBNe, Nat.reducePow, Nat.reduceDiv, Int.reduceLE, Int.reduceLT, Int.reduceToNat, Int.reduceNeg, Int.reduceAdd, Int.reduceSub, Int.reduceEq, reduceIte, reduceCtorEq, UInt8.reduceOfNat, sbT]
        all_goals (first | done | exact Nat.le_refl _ | (simp; done) | (and_intros <;> first | omega | exact Nat.le_refl _ | (simp; done) | (simp; omega)))
    ·
      with_reducible refine WA.skipN ?_
      repeat first | with_reducible refine WN.t ?_ | with_reducible refine WN.b ?_
      have h : 255 < (c.data.length : Int) ∨ 256 < c.exp := by first | (simp only [Bool.and_eq_true, Bool.or_eq_true, Bool.not_eq_true', decide_eq_true_eq, decide_eq_false_iff_not, beq_iff_eq, bne_iff_ne, ne_eq, Bool.not_eq_eq_eq_not, Bool.not_true, Bool.not_false, beq_eq_false_iff_ne, bne_eq_false_iff_eq, Bool.and_eq_false_imp, Bool.or_eq_false_iff, Bool.cond_false_right, Bool.cond_true_left, Bool.cond_false_left, Bool.cond_true_right, gt_iff_lt, ge_iff_le, true_and] at h; first | exact h | omega) | omega | simpa using h
      have hg : lngC c = true := decide_eq_true h
      obtain ⟨L2, hL2⟩ : ∃ L2, hdC c ++ [0] ++ (if c.data = [] then [] else b2 c.data.length ++ c.data) = L2 := ⟨_, rfl⟩
      have eB : encB c = L2 ++ (if c.exp = -1 then [] else b2 c.exp) := by rw [← hL2]; unfold encB; rw [hg]; simp [bn]
      rw [eB]
      refine WA.regionK ty_ok hs fun K hK => ?_
      simp only [go_sem, Nat.reduceAdd, Nat.reduceLT, Nat.reduceLeDiff, Nat.reduceEqDiff, Nat.reduceSub, Nat.reduceMul, Nat.reduceBEq, Nat.reduceBNe, Nat.reducePow, Nat.reduceDiv, Int.reduceLE, Int.reduceLT, Int.reduceToNat, Int.reduceNeg, Int.reduceAdd, Int.reduceSub, Int.reduceEq, reduceIte, reduceCtorEq, UInt8.reduceOfNat, true_and]
      first
      | refine hK _ ?_
      | refine And.intro (by first | omega | (simp; done) | (simp; omega) | (simp +contextual; done) | (simp_all; done) | (simp_all; omega)) (hK _ ?_)
      clear hK K
      refine WA.join (fun (_ : Unit) => ⟨[(1, .ptr 2000 0 0), (4, .sl 3000 1 0 (List.length L2)), (5, .lit (.int .i64 (c.data.length : Nat)))], [(3000, ⟨.by_ L2, 0, false⟩), (2000, ⟨.li 6 [.agg [.lit (.int .i64 c.cls), .lit (.int .i64 c.ins), .lit (.int .i64 c.p1), .lit (.int .i64 c.p2), .by_ c.data, .lit (.int .i64 c.exp)]], 0, false⟩)], 4000, 82⟩) (fun _ => True) ?_ ?_
      ·
        refine WA.regionK ty_ok hs fun K hK => ?_
        simp only [go_sem, Nat.reduceAdd, Nat.reduceLT, Nat.reduceLeDiff, Nat.reduceEqDiff, Nat.reduceSub, Nat.reduceMul, Nat.reduceBEq, Nat.reduceBNe, Nat.reducePow, Nat.reduceDiv, Int.reduceLE, Int.reduceLT, Int.reduceToNat, Int.reduceNeg, Int.reduceAdd, Int.reduceSub, Int.reduceEq, reduceIte, reduceCtorEq, UInt8.reduceOfNat, true_and]
        first
        | refine hK _ ?_
        | refine And.intro (by first | omega | (simp; done) | (simp; omega) | (simp +contextual; done) | (simp_all; done) | (simp_all; omega)) (hK _ ?_)
        clear hK K
        refine WA.cond rfl (fun h => ?_) (fun h => ?_)
        ·
          have h : 0 < (c.data.length : Int) := by first | (simp only [Bool.and_eq_true, Bool.or_eq_true, Bool.not_eq_true', decide_eq_true_eq, decide_eq_false_iff_not, beq_iff_eq, bne_iff_ne, ne_eq, Bool.not_eq_eq_eq_not, Bool.not_true, Bool.not_false, beq_eq_false_iff_ne, bne_eq_false_iff_eq, Bool.and_eq_false_imp, Bool.or_eq_false_iff, Bool.cond_false_right, Bool.cond_true_left, Bool.cond_false_left, Bool.cond_true_right, gt_iff_lt, ge_iff_le, true_and] at h; first | exact h | omega) | omega | simpa using h
          have hd : ¬ c.data = [] := fun q => by rw [q] at h; exact absurd h (by decide)
          rw [if_neg hd] at hL2
          subst hL2
          refine WA.drawn2 mixed_ ty_ok hs (tbl := [[], [], [1], [1, 2], [], [4], [1, 2, 3, 4, 5], [0, 1, 2, 3, 4, 5, 6], [], [8], [0, 1, 2, 3, 4, 5, 6, 7, 8, 9], [0, 1, 2, 3, 4, 5, 6, 7, 8, 9, 10]]) (nb := [7, 9, 10]) (hk := [[], [], [], [], [], [], [], [], [], [2264], [], []]) (by kernel_rfl) fun K hK => ?_
          simp only [go_sem, Nat.reduceAdd, Nat.reduceLT, Nat.reduceLeDiff, Nat.reduceEqDiff, Nat.reduceSub, Nat.reduceMul, Nat.reduceBEq, Nat.reduceBNe, Nat.reducePow, Nat.reduceDiv, Int.reduceLE, Int.reduceLT, Int.reduceToNat, Int.reduceNeg, Int.reduceAdd, Int.reduceSub, Int.reduceEq, reduceIte, reduceCtorEq, UInt8.reduceOfNat, true_and]
          repeat refine And.intro (by first | omega | assumption | (simp; done) | (simp; omega) | (simp +contextual; done) | (simp_all; done) | (simp_all; omega)) ?_
          refine hK _ (WN.mk ?_)
          repeat with_reducible refine WN.b ?_
          refine WN.join hX (fun k => if k = 3000 then 2376 else k) (()) (trivial) (by simp only [go_sem, Int.natCast_add, Nat.reduceAdd, Nat.reduceLT, Nat.reduceLeDiff, Nat.reduceEqDiff, Nat.reduceSub, Nat.reduceMul, Nat.reduceBEq, Nat.reduceBNe, Nat.reducePow, Nat.reduceDiv, Int.reduceLE, Int.reduceLT, Int.reduceToNat, Int.reduceNeg, Int.reduceAdd, Int.reduceSub, Int.reduceEq, reduceIte, reduceCtorEq, UInt8.reduceOfNat, hdC, b2, byt] <;> (try and_intros) <;> (try omega))
        ·
          have h : ¬ 0 < (c.data.length : Int) := by first | (simp only [Bool.and_eq_true, Bool.or_eq_true, Bool.not_eq_true', decide_eq_true_eq, decide_eq_false_iff_not, beq_iff_eq, bne_iff_ne, ne_eq, Bool.not_eq_eq_eq_not, Bool.not_true, Bool.not_false, beq_eq_false_iff_ne, bne_eq_false_iff_eq, Bool.and_eq_false_imp, Bool.or_eq_false_iff, Bool.cond_false_right, Bool.cond_true_left, Bool.cond_false_left, Bool.cond_true_right, gt_iff_lt, ge_iff_le, true_and] at h; first | exact h | omega) | omega | simpa using h
          have hd : c.data = [] := List.length_eq_zero_iff.1 (by omega)
          rw [if_pos hd, List.append_nil] at hL2
          subst hL2
          refine WA.skipN ?_
          repeat with_reducible refine WN.b ?_
          refine WN.join hX (fun k => if k = 3000 then 2264 else k) (()) (trivial) (by simp only [go_sem, Int.natCast_add, Nat.reduceAdd, Nat.reduceLT, Nat.reduceLeDiff, Nat.reduceEqDiff, Nat.reduceSub, Nat.reduceMul, Nat.reduceBEq, Nat.reduceBNe, Nat.reducePow, Nat.reduceDiv, Int.reduceLE, Int.reduceLT, Int.reduceToNat, Int.reduceNeg, Int.reduceAdd, Int.reduceSub, Int.reduceEq, reduceIte, reduceCtorEq, UInt8.reduceOfNat, hdC, byt] <;> (try and_intros) <;> (try omega))
      rintro - -
      have l2 : L2.length ≤ 7 + 4096 := by
        rw [← hL2]
        split
        · simp [hdC]
        · simp [hdC, b2]; omega
      refine WA.seq ?_
      refine WA.regionK ty_ok hs fun K hK => ?_
      simp only [go_sem, Nat.reduceAdd, Nat.reduceLT, Nat.reduceLeDiff, Nat.reduceEqDiff, Nat.reduceSub, Nat.reduceMul, Nat.reduceBEq, Nat.reduceBNe, Nat.reducePow, Nat.reduceDiv, Int.reduceLE, Int.reduceLT, Int.reduceToNat, Int.reduceNeg, Int.reduceAdd, Int.reduceSub, Int.reduceEq, reduceIte, reduceCtorEq, UInt8.reduceOfNat, true_and]
      first
      | refine hK _ ?_
      | refine And.intro (by first | omega | (simp; done) | (simp; omega) | (simp +contextual; done) | (simp_all; done) | (simp_all; omega)) (hK _ ?_)
      clear hK K
      refine WA.cond rfl (fun h => ?_) (fun h => ?_)
      ·
        have h : ¬ c.exp = -1 := by first | (simp only [Bool.and_eq_true, Bool.or_eq_true, Bool.not_eq_true', decide_eq_true_eq, decide_eq_false_iff_not, beq_iff_eq, bne_iff_ne, ne_eq, Bool.not_eq_eq_eq_not, Bool.not_true, Bool.not_false, beq_eq_false_iff_ne, bne_eq_false_iff_eq, Bool.and_eq_false_imp, Bool.or_eq_false_iff, Bool.cond_false_right, Bool.cond_true_left, Bool.cond_false_left, Bool.cond_true_right, gt_iff_lt, ge_iff_le, true_and] at h; first | exact h | omega) | omega | simpa using h
        rw [if_neg h]
        refine WA.regionE ty_ok hs fun K hK => ?_
        simp only [go_sem, Nat.reduceAdd, Nat.reduceLT, Nat.reduceLeDiff, Nat.reduceEqDiff, Nat.reduceSub, Nat.reduceMul, Nat.reduceBEq, Nat.reduceBNe, Nat.reducePow, Nat.reduceDiv, Int.reduceLE, Int.reduceLT, Int.reduceToNat, Int.reduceNeg, Int.reduceAdd, Int.reduceSub, Int.reduceEq, reduceIte, reduceCtorEq, UInt8.reduceOfNat, true_and]
        repeat refine And.intro (by first | omega | assumption | (simp; done) | (simp; omega) | (simp +contextual; done) | (simp_all; done) | (simp_all; omega)) ?_
        with_reducible refine hK _ (WN.mk ?_)
        clear hK K
        repeat first | with_reducible refine WN.t ?_ | with_reducible refine WN.b ?_
        refine WA.regionK ty_ok hs fun K hK => ?_
        simp only [go_sem, Nat.reduceAdd, Nat.reduceLT, Nat.reduceLeDiff, Nat.reduceEqDiff, Nat.reduceSub, Nat.reduceMul, Nat.reduceBEq, Nat.reduceBNe, Nat.reducePow, Nat.reduceDiv, Int.reduceLE, Int.reduceLT, Int.reduceToNat, Int.reduceNeg, Int.reduceAdd, Int.reduceSub, Int.reduceEq, reduceIte, reduceCtorEq, UInt8.reduceOfNat, true_and]
        first
        | refine hK _ ?_
        | refine And.intro (by first | omega | (simp; done) | (simp; omega) | (simp +contextual; done) | (simp_all; done) | (simp_all; omega)) (hK _ ?_)
        clear hK K
        refine WA.retE ty_ok (xs := [.by_ (L2 ++ b2 c.exp), .lit (.int .i64 0)]) (ls' := []) (rv := [.tmp 2, .tmp 3]) rfl hX (by decide) (fun _ => rfl) (fun _ _ h => h) ?_
        simp only [go_sem, Nat.reduceAdd, Nat.reduceLT, Nat.reduceLeDiff, Nat.reduceEqDiff, Nat.reduceSub, Nat.reduceMul, Nat.reduceBEq, Nat.reduceBNe, Nat.reducePow, Nat.reduceDiv, Int.reduceLE, Int.reduceLT, Int.reduceToNat, Int.reduceNeg, Int.reduceAdd, Int.reduceSub, Int.reduceEq, reduceIte, reduceCtorEq, UInt8.reduceOfNat, sbT, b2, byt]
        all_goals (first | done | exact Nat.le_refl _ | (simp; done) | (and_intros <;> first | omega | exact Nat.le_refl _ | (simp; done) | (simp; omega)))
      ·
        have h : c.exp = -1 := by first | (simp only [Bool.and_eq_true, Bool.or_eq_true, Bool.not_eq_true', decide_eq_true_eq, decide_eq_false_iff_not, beq_iff_eq, bne_iff_ne, ne_eq, Bool.not_eq_eq_eq_not, Bool.not_true, Bool.not_false, beq_eq_false_iff_ne, bne_eq_false_iff_eq, Bool.and_eq_false_imp, Bool.or_eq_false_iff, Bool.cond_false_right, Bool.cond_true_left, Bool.cond_false_left, Bool.cond_true_right, gt_iff_lt, ge_iff_le, true_and] at h; first | exact h | omega) | omega | simpa using h
        rw [if_pos h, List.append_nil]
        with_reducible refine WA.skipN ?_
        repeat first | with_reducible refine WN.t ?_ | with_reducible refine WN.b ?_
        refine WA.regionK ty_ok hs fun K hK => ?_
        simp only [go_sem, Nat.reduceAdd, Nat.reduceLT, Nat.reduceLeDiff, Nat.reduceEqDiff, Nat.reduceSub, Nat.reduceMul, Nat.reduceBEq, Nat.reduceBNe, Nat.reducePow, Nat.reduceDiv, Int.reduceLE, Int.reduceLT, Int.reduceToNat, Int.reduceNeg, Int.reduceAdd, Int.reduceSub, Int.reduceEq, reduceIte, reduceCtorEq, UInt8.reduceOfNat, true_and]
        first
        | refine hK _ ?_
        | refine And.intro (by first | omega | (simp; done) | (simp; omega) | (simp +contextual; done) | (simp_all; done) | (simp_all; omega)) (hK _ ?_)
        clear hK K
        refine WA.retE ty_ok (xs := [.by_ L2, .lit (.int .i64 0)]) (ls' := []) (rv := [.tmp 2, .tmp 3]) rfl hX (by decide) (fun _ => rfl) (fun _ _ h => h) ?_
        simp only [go_sem, Nat.reduceAdd, Nat.reduceLT, Nat.reduceLeDiff, Nat.reduceEqDiff, Nat.reduceSub, Nat.reduceMul, Nat.reduceBEq, Nat.reduceBNe, Nat.reducePow, Nat.reduceDiv, Int.reduceLE, Int.reduceLT, Int.reduceToNat, Int.reduceNeg, Int.reduceAdd, Int.reduceSub, Int.reduceEq, reduceIte, reduceCtorEq, UInt8.reduceOfNat, sbT]
        all_goals (first | done | exact Nat.le_refl _ | (simp; done) | (and_intros <;> first | omega | exact Nat.le_refl _ | (simp; done) | (simp; omega)))
end Go.Proofs.Yteodlgmcniikpaa
