import Derived.Test.YtnjmedihheblaaaFilT
namespace Go.Proofs.Ytnjmedihheblaaa
open Go.RowKit Go.TravelBase Go.TravelAbs
set_option linter.unusedVariables false
set_option linter.unusedSimpArgs false












/-! ### The reference's ID, Short, Access -/
theorem fstE_all {e : Nat → Int} : ∀ {n : Nat}, fstE e n = 0 → ∀ i, i < n → e i = 0
  | 0, _, i, hi => by omega
  | n + 1, h, i, hi => by
    simp only [fstE] at h
    by_cases q : fstE e n = 0
    · rw [if_pos q] at h
      rcases Nat.lt_succ_iff_lt_or_eq.1 hi with q2 | rfl
      · exact fstE_all q i q2
      · exact h
    · rw [if_neg q] at h
      exact absurd h q
theorem chk_len {l : List Fl} (h : chk l = 0) : l.length ≤ 24 := by
  unfold chk at h
  by_cases q : l.length > 24
  · rw [if_pos q] at h; cases h
  · omega
theorem atL_len {root : List Fl} {apps : List Fap} {a f : Int} (h : atO root apps a f = true) : (atL root apps a).length ≤ 24 := by
  have hb := (atO_rng h).1
  have hv : val root apps = 0 := by unfold atB at hb; omega
  unfold val at hv
  by_cases q1 : apps.length > 4
  · rw [if_pos q1] at hv; cases hv
  rw [if_neg q1] at hv
  by_cases q2 : chk root ≠ 0
  · rw [if_pos q2] at hv; exact absurd hv q2
  rw [if_neg q2] at hv
  unfold atL
  rw [if_neg hb]
  by_cases q3 : a = -1
  · rw [if_pos q3]; exact chk_len (by omega)
  rw [if_neg q3]
  have hg : a.toNat < apps.length := by unfold atB at hb; omega
  have := fstE_all hv _ hg
  unfold errP at this
  rw [dif_pos hg] at this
  have e : apps.getD a.toNat ⟨[], []⟩ = apps[a.toNat] := by simp [List.getD, List.getElem?_eq_getElem hg]
  rw [e]
  refine chk_len ?_
  split at this
  · cases this
  · split at this
    · cases this
    · exact this
theorem shortF_eq (z : Int) (g : Fl) : shortF z g = (bif (z != 0) then (g.short == z) else false) := by
  unfold shortF
  cases (g.short == z) <;> cases (z != 0) <;> rfl
def sgX : Sg := fun f args ls =>
  match f, args, ls with
  | 45, [.agg [.li 5 xs, .li 2 ys], .agg [.lit (.int .i64 a), .lit (.int .i64 b)]], [] => some (.tup [.li 5 ((rtL (xs.map unF) (ys.map unP) a b).map flA), .lit (.int .i64 (rtE (xs.map unF) (ys.map unP) a b))], [], xs = (xs.map unF).map flA ∧ ys = (ys.map unP).map apA)
  | _, _, _ => none
theorem sgX_ok : SgOK Try.prog sgX := by
  intro f args ls r ls' vc h hvc
  unfold sgX at h
  split at h <;> first | (simp only [Option.some.injEq, Prod.mk.injEq] at h; obtain ⟨rfl, rfl, rfl⟩ := h) | cases h
  · rename_i xs ys a b
    refine ⟨(fnOK Try.func45 (by decide) rfl), ?_⟩
    have := rat_s (xs.map unF) (ys.map unP) a b
    rw [← hvc.1, ← hvc.2] at this
    exact this
theorem raccess_s (root : List Fl) (apps : List Fap) (a f : Int) : FnS Try.prog 37 [.agg [.li 5 (root.map flA), .li 2 (apps.map apA)], .agg [.lit (.int .i64 a), .lit (.int .i64 f)]] [] (.tup [.agg [.lit (.int .i64 (selF root apps a f).level), .lit (.int .i64 (selF root apps a f).right)], .lit (.int .i64 (selE root apps a f))]) [] := by
  have hs := sgX_ok
  refine FnS.of Try.func37 rfl (N := 28) rfl (by simp) (by simp) fun X hX => ?_
  simp only [tmArgs, lentH, Nat.reduceAdd]
  refine WA.regionK ty_ok hs fun K hK => ?_
  simp only [go_sem, Nat.reduceAdd, Nat.reduceLT, Nat.reduceLeDiff, Nat.reduceEqDiff, Nat.reduceSub, Nat.reduceMul, Nat.reduceBEq, Nat.reduceBNe, Nat.reducePow, Nat.reduceDiv, Int.reduceLE, Int.reduceLT, Int.reduceToNat, Int.reduceNeg, Int.reduceAdd, Int.reduceSub, Int.reduceEq, reduceIte, reduceCtorEq, UInt8.reduceOfNat, true_and]
  first
  | refine hK _ ?_
  | refine And.intro (by first | omega | (simp; done) | (simp; omega) | (simp +contextual; done) | (simp_all; done) | (simp_all; omega)) (hK _ ?_)
  clear hK K
  refine WA.regionK ty_ok hs fun K hK => ?_
  simp only [go_sem, Nat.reduceAdd, Nat.reduceLT, Nat.reduceLeDiff, Nat.reduceEqDiff, Nat.reduceSub, Nat.reduceMul, Nat.reduceBEq, Nat.reduceBNe, Nat.reducePow, Nat.reduceDiv, Int.reduceLE, Int.reduceLT, Int.reduceToNat, Int.reduceNeg, Int.reduceAdd, Int.reduceSub, Int.reduceEq, reduceIte, reduceCtorEq, UInt8.reduceOfNat, sgX, Tr_fls, Tr_aps, un_fls, un_aps]
  first
  | refine hK _ ?_
  | refine And.intro (by first | omega | (simp; done) | (simp; omega) | (simp +contextual; done) | (simp_all; done) | (simp_all; omega)) (hK _ ?_)
  clear hK K
  refine WA.seq ?_
  refine WA.regionK ty_ok hs fun K hK => ?_
  simp only [go_sem, Nat.reduceAdd, Nat.reduceLT, Nat.reduceLeDiff, Nat.reduceEqDiff, Nat.reduceSub, Nat.reduceMul, Nat.reduceBEq, Nat.reduceBNe, Nat.reducePow, Nat.reduceDiv, Int.reduceLE, Int.reduceLT, Int.reduceToNat, Int.reduceNeg, Int.reduceAdd, Int.reduceSub, Int.reduceEq, reduceIte, reduceCtorEq, UInt8.reduceOfNat, true_and]
  first
  | refine hK _ ?_
  | refine And.intro (by first | omega | (simp; done) | (simp; omega) | (simp +contextual; done) | (simp_all; done) | (simp_all; omega)) (hK _ ?_)
  clear hK K
  refine WA.cond rfl (fun h => ?_) (fun h => ?_)
  ·
    have h1 : ¬ atO root apps a f = true := fun q => by
      have e : rtE root apps a f = 0 := if_pos q
      rw [e] at h
      cases h
    have e1 : selF root apps a f = fz := if_neg (fun q => h1 q.1)
    have e2 : selE root apps a f = 14 := if_neg h1
    have e3 : rtE root apps a f = 14 := if_neg h1
    refine WA.regionK ty_ok hs fun K hK => ?_
    simp only [go_sem, Nat.reduceAdd, Nat.reduceLT, Nat.reduceLeDiff, Nat.reduceEqDiff, Nat.reduceSub, Nat.reduceMul, Nat.reduceBEq, Nat.reduceBNe, Nat.reducePow, Nat.reduceDiv, Int.reduceLE, Int.reduceLT, Int.reduceToNat, Int.reduceNeg, Int.reduceAdd, Int.reduceSub, Int.reduceEq, reduceIte, reduceCtorEq, UInt8.reduceOfNat, true_and]
    first
    | refine hK _ ?_
    | refine And.intro (by first | omega | (simp; done) | (simp; omega) | (simp +contextual; done) | (simp_all; done) | (simp_all; omega)) (hK _ ?_)
    clear hK K
    refine WA.retE ty_ok (xs := [.agg [.lit (.int .i64 (selF root apps a f).level), .lit (.int .i64 (selF root apps a f).right)], .lit (.int .i64 (selE root apps a f))]) (ls' := []) (rv := [.cell 4 23, .tmp 5]) rfl hX (by decide) (fun _ => rfl) (fun _ _ h => h) ?_
    simp only [go_sem, Nat.reduceAdd, Nat.reduceLT, Nat.reduceLeDiff, Nat.reduceEqDiff, Nat.reduceSub, Nat.reduceMul, Nat.reduceBEq, Nat.reduceBNe, Nat.reducePow, Nat.reduceDiv, Int.reduceLE, Int.reduceLT, Int.reduceToNat, Int.reduceNeg, Int.reduceAdd, Int.reduceSub, Int.reduceEq, reduceIte, reduceCtorEq, UInt8.reduceOfNat, sbT, e1, e2, e3, fz]
  with_reducible refine WA.skipN ?_
  repeat first | with_reducible refine WN.t ?_ | with_reducible refine WN.b ?_
  have h1 : atO root apps a f = true := by
    by_cases q : atO root apps a f = true
    · exact q
    · have e : rtE root apps a f = 14 := if_neg q
      rw [e] at h
      cases h
  have e3 : rtL root apps a f = atL root apps a := if_pos h1
  rw [e3]
  obtain ⟨_, h2, h3⟩ := atO_rng h1
  clear h
  refine WA.seq ?_
  refine WA.regionK ty_ok hs fun K hK => ?_
  simp only [go_sem, Nat.reduceAdd, Nat.reduceLT, Nat.reduceLeDiff, Nat.reduceEqDiff, Nat.reduceSub, Nat.reduceMul, Nat.reduceBEq, Nat.reduceBNe, Nat.reducePow, Nat.reduceDiv, Int.reduceLE, Int.reduceLT, Int.reduceToNat, Int.reduceNeg, Int.reduceAdd, Int.reduceSub, Int.reduceEq, reduceIte, reduceCtorEq, UInt8.reduceOfNat, true_and]
  first
  | refine hK _ ?_
  | refine And.intro (by first | omega | (simp; done) | (simp; omega) | (simp +contextual; done) | (simp_all; done) | (simp_all; omega)) (hK _ ?_)
  clear hK K
  refine WA.cond rfl (fun h => ?_) (fun h => ?_)
  ·
    have h4 : ¬ 0 ≤ f := by have := of_decide_eq_true h; omega
    have e1 : selF root apps a f = fz := if_neg (by omega)
    have e2 : selE root apps a f = 16 := by unfold selE; rw [if_pos h1, if_neg h4]
    refine WA.regionK ty_ok hs fun K hK => ?_
    simp only [go_sem, Nat.reduceAdd, Nat.reduceLT, Nat.reduceLeDiff, Nat.reduceEqDiff, Nat.reduceSub, Nat.reduceMul, Nat.reduceBEq, Nat.reduceBNe, Nat.reducePow, Nat.reduceDiv, Int.reduceLE, Int.reduceLT, Int.reduceToNat, Int.reduceNeg, Int.reduceAdd, Int.reduceSub, Int.reduceEq, reduceIte, reduceCtorEq, UInt8.reduceOfNat, true_and]
    first
    | refine hK _ ?_
    | refine And.intro (by first | omega | (simp; done) | (simp; omega) | (simp +contextual; done) | (simp_all; done) | (simp_all; omega)) (hK _ ?_)
    clear hK K
    refine WA.retE ty_ok (xs := [.agg [.lit (.int .i64 (selF root apps a f).level), .lit (.int .i64 (selF root apps a f).right)], .lit (.int .i64 (selE root apps a f))]) (ls' := []) (rv := [.cell 4 23, .tmp 5]) rfl hX (by decide) (fun _ => rfl) (fun _ _ h => h) ?_
    simp only [go_sem, Nat.reduceAdd, Nat.reduceLT, Nat.reduceLeDiff, Nat.reduceEqDiff, Nat.reduceSub, Nat.reduceMul, Nat.reduceBEq, Nat.reduceBNe, Nat.reducePow, Nat.reduceDiv, Int.reduceLE, Int.reduceLT, Int.reduceToNat, Int.reduceNeg, Int.reduceAdd, Int.reduceSub, Int.reduceEq, reduceIte, reduceCtorEq, UInt8.reduceOfNat, sbT, e1, e2, fz]
  ·
    with_reducible refine WA.skipN ?_
    repeat first | with_reducible refine WN.t ?_ | with_reducible refine WN.b ?_
    have h4 : 0 ≤ f := by have := of_decide_eq_false h; omega
    have h5 : f.toNat < (atL root apps a).length := by omega
    have g1 := fl_at h5
    have e1 : selF root apps a f = (atL root apps a)[f.toNat] := by
      unfold selF
      rw [if_pos ⟨h1, h4⟩]
      simp [List.getD, List.getElem?_eq_getElem h5]
    have e2 : selE root apps a f = 0 := by unfold selE; rw [if_pos h1, if_pos h4]
    refine WA.regionK ty_ok hs fun K hK => ?_
    simp only [go_sem, Nat.reduceAdd, Nat.reduceLT, Nat.reduceLeDiff, Nat.reduceEqDiff, Nat.reduceSub, Nat.reduceMul, Nat.reduceBEq, Nat.reduceBNe, Nat.reducePow, Nat.reduceDiv, Int.reduceLE, Int.reduceLT, Int.reduceToNat, Int.reduceNeg, Int.reduceAdd, Int.reduceSub, Int.reduceEq, reduceIte, reduceCtorEq, UInt8.reduceOfNat, g1]
    first
    | refine hK _ ?_
    | refine And.intro (by first | omega | (simp; done) | (simp; omega) | (simp +contextual; done) | (simp_all; done) | (simp_all; omega)) (hK _ ?_)
    clear hK K
    refine WA.retE ty_ok (xs := [.agg [.lit (.int .i64 (selF root apps a f).level), .lit (.int .i64 (selF root apps a f).right)], .lit (.int .i64 (selE root apps a f))]) (ls' := []) (rv := [.cell 4 23, .tmp 5]) rfl hX (by decide) (fun _ => rfl) (fun _ _ h => h) ?_
    simp only [go_sem, Nat.reduceAdd, Nat.reduceLT, Nat.reduceLeDiff, Nat.reduceEqDiff, Nat.reduceSub, Nat.reduceMul, Nat.reduceBEq, Nat.reduceBNe, Nat.reducePow, Nat.reduceDiv, Int.reduceLE, Int.reduceLT, Int.reduceToNat, Int.reduceNeg, Int.reduceAdd, Int.reduceSub, Int.reduceEq, reduceIte, reduceCtorEq, UInt8.reduceOfNat, sbT, e1, e2]

theorem rid_s (root : List Fl) (apps : List Fap) (a f z : Int) : FnS Try.prog 34 [.agg [.li 5 (root.map flA), .li 2 (apps.map apA)], .agg [.lit (.int .i64 a), .lit (.int .i64 f)], .lit (.int .i64 z)] [] (.tup [.agg [.lit (.int .i64 (fndA (idF z) root apps a f)), .lit (.int .i64 (fndF (idF z) root apps a f))], .lit (.int .i64 (fndE (idF z) root apps a f))]) [] := by
  have hs := sgX_ok
  refine FnS.of Try.func34 rfl (N := 39) rfl (by simp) (by simp) fun X hX => ?_
  simp only [tmArgs, lentH, Nat.reduceAdd]
  refine WA.regionK ty_ok hs fun K hK => ?_
  simp only [go_sem, Nat.reduceAdd, Nat.reduceLT, Nat.reduceLeDiff, Nat.reduceEqDiff, Nat.reduceSub, Nat.reduceMul, Nat.reduceBEq, Nat.reduceBNe, Nat.reducePow, Nat.reduceDiv, Int.reduceLE, Int.reduceLT, Int.reduceToNat, Int.reduceNeg, Int.reduceAdd, Int.reduceSub, Int.reduceEq, reduceIte, reduceCtorEq, UInt8.reduceOfNat, true_and]
  first
  | refine hK _ ?_
  | refine And.intro (by first | omega | (simp; done) | (simp; omega) | (simp +contextual; done) | (simp_all; done) | (simp_all; omega)) (hK _ ?_)
  clear hK K
  refine WA.regionK ty_ok hs fun K hK => ?_
  simp only [go_sem, Nat.reduceAdd, Nat.reduceLT, Nat.reduceLeDiff, Nat.reduceEqDiff, Nat.reduceSub, Nat.reduceMul, Nat.reduceBEq, Nat.reduceBNe, Nat.reducePow, Nat.reduceDiv, Int.reduceLE, Int.reduceLT, Int.reduceToNat, Int.reduceNeg, Int.reduceAdd, Int.reduceSub, Int.reduceEq, reduceIte, reduceCtorEq, UInt8.reduceOfNat, sgX, Tr_fls, Tr_aps, un_fls, un_aps]
  first
  | refine hK _ ?_
  | refine And.intro (by first | omega | (simp; done) | (simp; omega) | (simp +contextual; done) | (simp_all; done) | (simp_all; omega)) (hK _ ?_)
  clear hK K
  refine WA.seq ?_
  refine WA.regionK ty_ok hs fun K hK => ?_
  simp only [go_sem, Nat.reduceAdd, Nat.reduceLT, Nat.reduceLeDiff, Nat.reduceEqDiff, Nat.reduceSub, Nat.reduceMul, Nat.reduceBEq, Nat.reduceBNe, Nat.reducePow, Nat.reduceDiv, Int.reduceLE, Int.reduceLT, Int.reduceToNat, Int.reduceNeg, Int.reduceAdd, Int.reduceSub, Int.reduceEq, reduceIte, reduceCtorEq, UInt8.reduceOfNat, true_and]
  first
  | refine hK _ ?_
  | refine And.intro (by first | omega | (simp; done) | (simp; omega) | (simp +contextual; done) | (simp_all; done) | (simp_all; omega)) (hK _ ?_)
  clear hK K
  refine WA.cond rfl (fun h => ?_) (fun h => ?_)
  ·
    have h1 : ¬ atO root apps a f = true := fun q => by
      have e : rtE root apps a f = 0 := if_pos q
      rw [e] at h
      cases h
    have e3 : rtE root apps a f = 14 := if_neg h1
    have h1 : atO root apps a f = false := by simpa using h1
    refine WA.regionK ty_ok hs fun K hK => ?_
    simp only [go_sem, Nat.reduceAdd, Nat.reduceLT, Nat.reduceLeDiff, Nat.reduceEqDiff, Nat.reduceSub, Nat.reduceMul, Nat.reduceBEq, Nat.reduceBNe, Nat.reducePow, Nat.reduceDiv, Int.reduceLE, Int.reduceLT, Int.reduceToNat, Int.reduceNeg, Int.reduceAdd, Int.reduceSub, Int.reduceEq, reduceIte, reduceCtorEq, UInt8.reduceOfNat, true_and]
    first
    | refine hK _ ?_
    | refine And.intro (by first | omega | (simp; done) | (simp; omega) | (simp +contextual; done) | (simp_all; done) | (simp_all; omega)) (hK _ ?_)
    clear hK K
    refine WA.retE ty_ok (xs := [.agg [.lit (.int .i64 (fndA (idF z) root apps a f)), .lit (.int .i64 (fndF (idF z) root apps a f))], .lit (.int .i64 (fndE (idF z) root apps a f))]) (ls' := []) (rv := [.cell 6 46, .tmp 7]) rfl hX (by decide) (fun _ => rfl) (fun _ _ h => h) ?_
    simp only [go_sem, Nat.reduceAdd, Nat.reduceLT, Nat.reduceLeDiff, Nat.reduceEqDiff, Nat.reduceSub, Nat.reduceMul, Nat.reduceBEq, Nat.reduceBNe, Nat.reducePow, Nat.reduceDiv, Int.reduceLE, Int.reduceLT, Int.reduceToNat, Int.reduceNeg, Int.reduceAdd, Int.reduceSub, Int.reduceEq, reduceIte, reduceCtorEq, UInt8.reduceOfNat, sbT, fndA, fndF, fndE, h1, e3]
    all_goals simp
  with_reducible refine WA.skipN ?_
  repeat first | with_reducible refine WN.t ?_ | with_reducible refine WN.b ?_
  have h1 : atO root apps a f = true := by
    by_cases q : atO root apps a f = true
    · exact q
    · have e : rtE root apps a f = 14 := if_neg q
      rw [e] at h
      cases h
  have e3 : rtL root apps a f = atL root apps a := if_pos h1
  rw [e3]
  clear h
  refine WA.seq ?_
  refine WA.regionK ty_ok hs fun K hK => ?_
  simp only [go_sem, Nat.reduceAdd, Nat.reduceLT, Nat.reduceLeDiff, Nat.reduceEqDiff, Nat.reduceSub, Nat.reduceMul, Nat.reduceBEq, Nat.reduceBNe, Nat.reducePow, Nat.reduceDiv, Int.reduceLE, Int.reduceLT, Int.reduceToNat, Int.reduceNeg, Int.reduceAdd, Int.reduceSub, Int.reduceEq, reduceIte, reduceCtorEq, UInt8.reduceOfNat, true_and]
  first
  | refine hK _ ?_
  | refine And.intro (by first | omega | (simp; done) | (simp; omega) | (simp +contextual; done) | (simp_all; done) | (simp_all; omega)) (hK _ ?_)
  clear hK K
  refine WA.block ?_
  refine WA.loopW hX (fun k => k) ((fun (i : Nat) => ⟨[(2, .lit (.int .i64 z)), (4, .ptr 2008 0 0), (6, .ptr 2016 0 0), (8, .li 5 ((atL root apps a).map flA)), (10, .lit (.int .i64 (i : Nat)))], [(2016, ⟨.li 2 [.agg [.lit (.int .i64 0), .lit (.int .i64 0)]], 0, false⟩), (2008, ⟨.li 2 [.agg [.lit (.int .i64 a), .lit (.int .i64 f)]], 0, false⟩)], 3000, 39⟩ : _ → St)) (fun i => (atL root apps a).length - i) (fun i => i ≤ (atL root apps a).length ∧ ∀ (j : Nat) (hj : j < (atL root apps a).length), j < i → (idF z) (atL root apps a)[j] = false) (i0 := 0) (⟨by omega, fun j hj q => by omega⟩) (by simp only [go_sem, Int.natCast_add, Nat.reduceAdd, Nat.reduceLT, Nat.reduceLeDiff, Nat.reduceEqDiff, Nat.reduceSub, Nat.reduceMul, Nat.reduceBEq, Nat.reduceBNe, Nat.reducePow, Nat.reduceDiv, Int.reduceLE, Int.reduceLT, Int.reduceToNat, Int.reduceNeg, Int.reduceAdd, Int.reduceSub, Int.reduceEq, reduceIte, reduceCtorEq, UInt8.reduceOfNat, Tr_fls] <;> (try and_intros) <;> (try omega)) fun i hi => ?_
  obtain ⟨hi, hi2⟩ := hi
  refine WA.seq ?_
  refine WA.regionK ty_ok hs fun K hK => ?_
  simp only [go_sem, Nat.reduceAdd, Nat.reduceLT, Nat.reduceLeDiff, Nat.reduceEqDiff, Nat.reduceSub, Nat.reduceMul, Nat.reduceBEq, Nat.reduceBNe, Nat.reducePow, Nat.reduceDiv, Int.reduceLE, Int.reduceLT, Int.reduceToNat, Int.reduceNeg, Int.reduceAdd, Int.reduceSub, Int.reduceEq, reduceIte, reduceCtorEq, UInt8.reduceOfNat, true_and]
  first
  | refine hK _ ?_
  | refine And.intro (by first | omega | (simp; done) | (simp; omega) | (simp +contextual; done) | (simp_all; done) | (simp_all; omega)) (hK _ ?_)
  clear hK K
  refine WA.cond rfl (fun h => ?_) (fun h => ?_)
  ·
    with_reducible refine WA.skipN ?_
    repeat first | with_reducible refine WN.t ?_ | with_reducible refine WN.b ?_
    have h6 : i < (atL root apps a).length := by have := of_decide_eq_true h; omega
    clear h
    have hlen := atL_len h1
    have g1 := fl_at h6
    have g2 := (show idF z (atL root apps a)[i] = ((atL root apps a)[i].id == z) from rfl)
    refine WA.seq ?_
    refine WA.block ?_
    refine WA.regionK ty_ok hs fun K hK => ?_
    simp only [go_sem, Nat.reduceAdd, Nat.reduceLT, Nat.reduceLeDiff, Nat.reduceEqDiff, Nat.reduceSub, Nat.reduceMul, Nat.reduceBEq, Nat.reduceBNe, Nat.reducePow, Nat.reduceDiv, Int.reduceLE, Int.reduceLT, Int.reduceToNat, Int.reduceNeg, Int.reduceAdd, Int.reduceSub, Int.reduceEq, reduceIte, reduceCtorEq, UInt8.reduceOfNat, g1]
    first
    | refine hK _ ?_
    | refine And.intro (by first | omega | (simp; done) | (simp; omega) | (simp +contextual; done) | (simp_all; done) | (simp_all; omega)) (hK _ ?_)
    clear hK K
    refine WA.cond rfl (fun h => ?_) (fun h => ?_)
    ·
      have h7 : fdx (idF z) (atL root apps a) = i := fdx_yes h6 (by rw [g2]; exact h) (fun j hj => hi2 j (by omega) hj)
      have h8 : (0 ≤ (i : Int)) = True := eq_true (by omega)
      refine WA.regionK ty_ok hs fun K hK => ?_
      simp only [go_sem, Nat.reduceAdd, Nat.reduceLT, Nat.reduceLeDiff, Nat.reduceEqDiff, Nat.reduceSub, Nat.reduceMul, Nat.reduceBEq, Nat.reduceBNe, Nat.reducePow, Nat.reduceDiv, Int.reduceLE, Int.reduceLT, Int.reduceToNat, Int.reduceNeg, Int.reduceAdd, Int.reduceSub, Int.reduceEq, reduceIte, reduceCtorEq, UInt8.reduceOfNat, true_and]
      first
      | refine hK _ ?_
      | refine And.intro (by first | omega | (simp; done) | (simp; omega) | (simp +contextual; done) | (simp_all; done) | (simp_all; omega)) (hK _ ?_)
      clear hK K
      refine WA.retE ty_ok (xs := [.agg [.lit (.int .i64 (fndA (idF z) root apps a f)), .lit (.int .i64 (fndF (idF z) root apps a f))], .lit (.int .i64 (fndE (idF z) root apps a f))]) (ls' := []) (rv := [.cell 6 46, .tmp 7]) rfl hX (by decide) (fun _ => rfl) (fun _ _ h => h) ?_
      simp only [go_sem, Nat.reduceAdd, Nat.reduceLT, Nat.reduceLeDiff, Nat.reduceEqDiff, Nat.reduceSub, Nat.reduceMul, Nat.reduceBEq, Nat.reduceBNe, Nat.reducePow, Nat.reduceDiv, Int.reduceLE, Int.reduceLT, Int.reduceToNat, Int.reduceNeg, Int.reduceAdd, Int.reduceSub, Int.reduceEq, reduceIte, reduceCtorEq, UInt8.reduceOfNat, sbT, fndA, fndF, fndE, h1, h7, h8]
    with_reducible refine WA.skipN ?_
    repeat first | with_reducible refine WN.t ?_ | with_reducible refine WN.b ?_
    have h9 : (idF z) (atL root apps a)[i] = false := by rw [g2]; exact h
    refine WA.regionE ty_ok hs fun K hK => ?_
    simp only [go_sem, Nat.reduceAdd, Nat.reduceLT, Nat.reduceLeDiff, Nat.reduceEqDiff, Nat.reduceSub, Nat.reduceMul, Nat.reduceBEq, Nat.reduceBNe, Nat.reducePow, Nat.reduceDiv, Int.reduceLE, Int.reduceLT, Int.reduceToNat, Int.reduceNeg, Int.reduceAdd, Int.reduceSub, Int.reduceEq, reduceIte, reduceCtorEq, UInt8.reduceOfNat, true_and]
    repeat refine And.intro (by first | omega | assumption | (simp; done) | (simp; omega) | (simp +contextual; done) | (simp_all; done) | (simp_all; omega)) ?_
    refine hK _ (roundE hX (fun k => k) (j := i + 1) (⟨by omega, fun j hj q => by rcases Nat.lt_succ_iff_lt_or_eq.1 q with q | rfl <;> first | exact hi2 j hj q | exact h9⟩) (by first | omega | (dsimp only; omega) | (simp; omega)) (by simp only [go_sem, Int.natCast_add, Nat.reduceAdd, Nat.reduceLT, Nat.reduceLeDiff, Nat.reduceEqDiff, Nat.reduceSub, Nat.reduceMul, Nat.reduceBEq, Nat.reduceBNe, Nat.reducePow, Nat.reduceDiv, Int.reduceLE, Int.reduceLT, Int.reduceToNat, Int.reduceNeg, Int.reduceAdd, Int.reduceSub, Int.reduceEq, reduceIte, reduceCtorEq, UInt8.reduceOfNat, Tr_fls] <;> (try and_intros) <;> (try omega)))
  ·
    have h6 : i = (atL root apps a).length := by have := of_decide_eq_false h; omega
    have h7 : fdx (idF z) (atL root apps a) = -1 := fdx_no fun j hj => hi2 j hj (by omega)
    have h8 : (0 ≤ (-1 : Int)) = False := eq_false (by decide)
    with_reducible refine WA.exitX ?_
    repeat first | with_reducible refine WX.b ?_ | with_reducible refine WX.t ?_ | (with_reducible refine WX.n ?hne ?_; case hne => rfl)
    refine WA.regionK ty_ok hs fun K hK => ?_
    simp only [go_sem, Nat.reduceAdd, Nat.reduceLT, Nat.reduceLeDiff, Nat.reduceEqDiff, Nat.reduceSub, Nat.reduceMul, Nat.reduceBEq, Nat.reduceBNe, Nat.reducePow, Nat.reduceDiv, Int.reduceLE, Int.reduceLT, Int.reduceToNat, Int.reduceNeg, Int.reduceAdd, Int.reduceSub, Int.reduceEq, reduceIte, reduceCtorEq, UInt8.reduceOfNat, true_and]
    first
    | refine hK _ ?_
    | refine And.intro (by first | omega | (simp; done) | (simp; omega) | (simp +contextual; done) | (simp_all; done) | (simp_all; omega)) (hK _ ?_)
    clear hK K
    refine WA.retE ty_ok (xs := [.agg [.lit (.int .i64 (fndA (idF z) root apps a f)), .lit (.int .i64 (fndF (idF z) root apps a f))], .lit (.int .i64 (fndE (idF z) root apps a f))]) (ls' := []) (rv := [.cell 6 46, .tmp 7]) rfl hX (by decide) (fun _ => rfl) (fun _ _ h => h) ?_
    simp only [go_sem, Nat.reduceAdd, Nat.reduceLT, Nat.reduceLeDiff, Nat.reduceEqDiff, Nat.reduceSub, Nat.reduceMul, Nat.reduceBEq, Nat.reduceBNe, Nat.reducePow, Nat.reduceDiv, Int.reduceLE, Int.reduceLT, Int.reduceToNat, Int.reduceNeg, Int.reduceAdd, Int.reduceSub, Int.reduceEq, reduceIte, reduceCtorEq, UInt8.reduceOfNat, sbT, fndA, fndF, fndE, h1, h7, h8]
theorem rshort_s (root : List Fl) (apps : List Fap) (a f z : Int) : FnS Try.prog 35 [.agg [.li 5 (root.map flA), .li 2 (apps.map apA)], .agg [.lit (.int .i64 a), .lit (.int .i64 f)], .lit (.int .i64 z)] [] (.tup [.agg [.lit (.int .i64 (fndA (shortF z) root apps a f)), .lit (.int .i64 (fndF (shortF z) root apps a f))], .lit (.int .i64 (fndE (shortF z) root apps a f))]) [] := by
  have hs := sgX_ok
  refine FnS.of Try.func35 rfl (N := 43) rfl (by simp) (by simp) fun X hX => ?_
  simp only [tmArgs, lentH, Nat.reduceAdd]
  refine WA.regionK ty_ok hs fun K hK => ?_
  simp only [go_sem, Nat.reduceAdd, Nat.reduceLT, Nat.reduceLeDiff, Nat.reduceEqDiff, Nat.reduceSub, Nat.reduceMul, Nat.reduceBEq, Nat.reduceBNe, Nat.reducePow, Nat.reduceDiv, Int.reduceLE, Int.reduceLT, Int.reduceToNat, Int.reduceNeg, Int.reduceAdd, Int.reduceSub, Int.reduceEq, reduceIte, reduceCtorEq, UInt8.reduceOfNat, true_and]
  first
  | refine hK _ ?_
  | refine And.intro (by first | omega | (simp; done) | (simp; omega) | (simp +contextual; done) | (simp_all; done) | (simp_all; omega)) (hK _ ?_)
  clear hK K
  refine WA.regionK ty_ok hs fun K hK => ?_
  simp only [go_sem, Nat.reduceAdd, Nat.reduceLT, Nat.reduceLeDiff, Nat.reduceEqDiff, Nat.reduceSub, Nat.reduceMul, Nat.reduceBEq, Nat.reduceBNe, Nat.reducePow, Nat.reduceDiv, Int.reduceLE, Int.reduceLT, Int.reduceToNat, Int.reduceNeg, Int.reduceAdd, Int.reduceSub, Int.reduceEq, reduceIte, reduceCtorEq, UInt8.reduceOfNat, sgX, Tr_fls, Tr_aps, un_fls, un_aps]
  first
  | refine hK _ ?_
  | refine And.intro (by first | omega | (simp; done) | (simp; omega) | (simp +contextual; done) | (simp_all; done) | (simp_all; omega)) (hK _ ?_)
  clear hK K
  refine WA.seq ?_
  refine WA.regionK ty_ok hs fun K hK => ?_
  simp only [go_sem, Nat.reduceAdd, Nat.reduceLT, Nat.reduceLeDiff, Nat.reduceEqDiff, Nat.reduceSub, Nat.reduceMul, Nat.reduceBEq, Nat.reduceBNe, Nat.reducePow, Nat.reduceDiv, Int.reduceLE, Int.reduceLT, Int.reduceToNat, Int.reduceNeg, Int.reduceAdd, Int.reduceSub, Int.reduceEq, reduceIte, reduceCtorEq, UInt8.reduceOfNat, true_and]
  first
  | refine hK _ ?_
  | refine And.intro (by first | omega | (simp; done) | (simp; omega) | (simp +contextual; done) | (simp_all; done) | (simp_all; omega)) (hK _ ?_)
  clear hK K
  refine WA.cond rfl (fun h => ?_) (fun h => ?_)
  ·
    have h1 : ¬ atO root apps a f = true := fun q => by
      have e : rtE root apps a f = 0 := if_pos q
      rw [e] at h
      cases h
    have e3 : rtE root apps a f = 14 := if_neg h1
    have h1 : atO root apps a f = false := by simpa using h1
    refine WA.regionK ty_ok hs fun K hK => ?_
    simp only [go_sem, Nat.reduceAdd, Nat.reduceLT, Nat.reduceLeDiff, Nat.reduceEqDiff, Nat.reduceSub, Nat.reduceMul, Nat.reduceBEq, Nat.reduceBNe, Nat.reducePow, Nat.reduceDiv, Int.reduceLE, Int.reduceLT, Int.reduceToNat, Int.reduceNeg, Int.reduceAdd, Int.reduceSub, Int.reduceEq, reduceIte, reduceCtorEq, UInt8.reduceOfNat, true_and]
    first
    | refine hK _ ?_
    | refine And.intro (by first | omega | (simp; done) | (simp; omega) | (simp +contextual; done) | (simp_all; done) | (simp_all; omega)) (hK _ ?_)
    clear hK K
    refine WA.retE ty_ok (xs := [.agg [.lit (.int .i64 (fndA (shortF z) root apps a f)), .lit (.int .i64 (fndF (shortF z) root apps a f))], .lit (.int .i64 (fndE (shortF z) root apps a f))]) (ls' := []) (rv := [.cell 6 46, .tmp 7]) rfl hX (by decide) (fun _ => rfl) (fun _ _ h => h) ?_
    simp only [go_sem, Nat.reduceAdd, Nat.reduceLT, Nat.reduceLeDiff, Nat.reduceEqDiff, Nat.reduceSub, Nat.reduceMul, Nat.reduceBEq, Nat.reduceBNe, Nat.reducePow, Nat.reduceDiv, Int.reduceLE, Int.reduceLT, Int.reduceToNat, Int.reduceNeg, Int.reduceAdd, Int.reduceSub, Int.reduceEq, reduceIte, reduceCtorEq, UInt8.reduceOfNat, sbT, fndA, fndF, fndE, h1, e3]
    all_goals simp
  with_reducible refine WA.skipN ?_
  repeat first | with_reducible refine WN.t ?_ | with_reducible refine WN.b ?_
  have h1 : atO root apps a f = true := by
    by_cases q : atO root apps a f = true
    · exact q
    · have e : rtE root apps a f = 14 := if_neg q
      rw [e] at h
      cases h
  have e3 : rtL root apps a f = atL root apps a := if_pos h1
  rw [e3]
  clear h
  refine WA.seq ?_
  refine WA.regionK ty_ok hs fun K hK => ?_
  simp only [go_sem, Nat.reduceAdd, Nat.reduceLT, Nat.reduceLeDiff, Nat.reduceEqDiff, Nat.reduceSub, Nat.reduceMul, Nat.reduceBEq, Nat.reduceBNe, Nat.reducePow, Nat.reduceDiv, Int.reduceLE, Int.reduceLT, Int.reduceToNat, Int.reduceNeg, Int.reduceAdd, Int.reduceSub, Int.reduceEq, reduceIte, reduceCtorEq, UInt8.reduceOfNat, true_and]
  first
  | refine hK _ ?_
  | refine And.intro (by first | omega | (simp; done) | (simp; omega) | (simp +contextual; done) | (simp_all; done) | (simp_all; omega)) (hK _ ?_)
  clear hK K
  refine WA.block ?_
  refine WA.loopW hX (fun k => k) ((fun (i : Nat) => ⟨[(2, .lit (.int .i64 z)), (4, .ptr 2008 0 0), (6, .ptr 2016 0 0), (8, .li 5 ((atL root apps a).map flA)), (10, .lit (.int .i64 (i : Nat)))], [(2016, ⟨.li 2 [.agg [.lit (.int .i64 0), .lit (.int .i64 0)]], 0, false⟩), (2008, ⟨.li 2 [.agg [.lit (.int .i64 a), .lit (.int .i64 f)]], 0, false⟩)], 3000, 43⟩ : _ → St)) (fun i => (atL root apps a).length - i) (fun i => i ≤ (atL root apps a).length ∧ ∀ (j : Nat) (hj : j < (atL root apps a).length), j < i → (shortF z) (atL root apps a)[j] = false) (i0 := 0) (⟨by omega, fun j hj q => by omega⟩) (by simp only [go_sem, Int.natCast_add, Nat.reduceAdd, Nat.reduceLT, Nat.reduceLeDiff, Nat.reduceEqDiff, Nat.reduceSub, Nat.reduceMul, Nat.reduceBEq, Nat.reduceBNe, Nat.reducePow, Nat.reduceDiv, Int.reduceLE, Int.reduceLT, Int.reduceToNat, Int.reduceNeg, Int.reduceAdd, Int.reduceSub, Int.reduceEq, reduceIte, reduceCtorEq, UInt8.reduceOfNat, Tr_fls] <;> (try and_intros) <;> (try omega)) fun i hi => ?_
  obtain ⟨hi, hi2⟩ := hi
  refine WA.seq ?_
  refine WA.regionK ty_ok hs fun K hK => ?_
  simp only [go_sem, Nat.reduceAdd, Nat.reduceLT, Nat.reduceLeDiff, Nat.reduceEqDiff, Nat.reduceSub, Nat.reduceMul, Nat.reduceBEq, Nat.reduceBNe, Nat.reducePow, Nat.reduceDiv, Int.reduceLE, Int.reduceLT, Int.reduceToNat, Int.reduceNeg, Int.reduceAdd, Int.reduceSub, Int.reduceEq, reduceIte, reduceCtorEq, UInt8.reduceOfNat, true_and]
  first
  | refine hK _ ?_
  | refine And.intro (by first | omega | (simp; done) | (simp; omega) | (simp +contextual; done) | (simp_all; done) | (simp_all; omega)) (hK _ ?_)
  clear hK K
  refine WA.cond rfl (fun h => ?_) (fun h => ?_)
  ·
    with_reducible refine WA.skipN ?_
    repeat first | with_reducible refine WN.t ?_ | with_reducible refine WN.b ?_
    have h6 : i < (atL root apps a).length := by have := of_decide_eq_true h; omega
    clear h
    have hlen := atL_len h1
    have g1 := fl_at h6
    have g2 := (shortF_eq z (atL root apps a)[i])
    refine WA.seq ?_
    refine WA.block ?_
    refine WA.regionK ty_ok hs fun K hK => ?_
    simp only [go_sem, Nat.reduceAdd, Nat.reduceLT, Nat.reduceLeDiff, Nat.reduceEqDiff, Nat.reduceSub, Nat.reduceMul, Nat.reduceBEq, Nat.reduceBNe, Nat.reducePow, Nat.reduceDiv, Int.reduceLE, Int.reduceLT, Int.reduceToNat, Int.reduceNeg, Int.reduceAdd, Int.reduceSub, Int.reduceEq, reduceIte, reduceCtorEq, UInt8.reduceOfNat, g1]
    first
    | refine hK _ ?_
    | refine And.intro (by first | omega | (simp; done) | (simp; omega) | (simp +contextual; done) | (simp_all; done) | (simp_all; omega)) (hK _ ?_)
    clear hK K
    refine WA.cond rfl (fun h => ?_) (fun h => ?_)
    ·
      have h7 : fdx (shortF z) (atL root apps a) = i := fdx_yes h6 (by rw [g2]; exact h) (fun j hj => hi2 j (by omega) hj)
      have h8 : (0 ≤ (i : Int)) = True := eq_true (by omega)
      refine WA.regionK ty_ok hs fun K hK => ?_
      simp only [go_sem, Nat.reduceAdd, Nat.reduceLT, Nat.reduceLeDiff, Nat.reduceEqDiff, Nat.reduceSub, Nat.reduceMul, Nat.reduceBEq, Nat.reduceBNe, Nat.reducePow, Nat.reduceDiv, Int.reduceLE, Int.reduceLT, Int.reduceToNat, Int.reduceNeg, Int.reduceAdd, Int.reduceSub, Int.reduceEq, reduceIte, reduceCtorEq, UInt8.reduceOfNat, true_and]
      first
      | refine hK _ ?_
      | refine And.intro (by first | omega | (simp; done) | (simp; omega) | (simp +contextual; done) | (simp_all; done) | (simp_all; omega)) (hK _ ?_)
      clear hK K
      refine WA.retE ty_ok (xs := [.agg [.lit (.int .i64 (fndA (shortF z) root apps a f)), .lit (.int .i64 (fndF (shortF z) root apps a f))], .lit (.int .i64 (fndE (shortF z) root apps a f))]) (ls' := []) (rv := [.cell 6 46, .tmp 7]) rfl hX (by decide) (fun _ => rfl) (fun _ _ h => h) ?_
      simp only [go_sem, Nat.reduceAdd, Nat.reduceLT, Nat.reduceLeDiff, Nat.reduceEqDiff, Nat.reduceSub, Nat.reduceMul, Nat.reduceBEq, Nat.reduceBNe, Nat.reducePow, Nat.reduceDiv, Int.reduceLE, Int.reduceLT, Int.reduceToNat, Int.reduceNeg, Int.reduceAdd, Int.reduceSub, Int.reduceEq, reduceIte, reduceCtorEq, UInt8.reduceOfNat, sbT, fndA, fndF, fndE, h1, h7, h8]
    with_reducible refine WA.skipN ?_
    repeat first | with_reducible refine WN.t ?_ | with_reducible refine WN.b ?_
    have h9 : (shortF z) (atL root apps a)[i] = false := by rw [g2]; exact h
    refine WA.regionE ty_ok hs fun K hK => ?_
    simp only [go_sem, Nat.reduceAdd, Nat.reduceLT, Nat.reduceLeDiff, Nat.reduceEqDiff, Nat.reduceSub, Nat.reduceMul, Nat.reduceBEq, Nat.reduceBNe, Nat.reducePow, Nat.reduceDiv, Int.reduceLE, Int.reduceLT, Int.reduceToNat, Int.reduceNeg, Int.reduceAdd, Int.reduceSub, Int.reduceEq, reduceIte, reduceCtorEq, UInt8.reduceOfNat, true_and]
    repeat refine And.intro (by first | omega | assumption | (simp; done) | (simp; omega) | (simp +contextual; done) | (simp_all; done) | (simp_all; omega)) ?_
    refine hK _ (roundE hX (fun k => k) (j := i + 1) (⟨by omega, fun j hj q => by rcases Nat.lt_succ_iff_lt_or_eq.1 q with q | rfl <;> first | exact hi2 j hj q | exact h9⟩) (by first | omega | (dsimp only; omega) | (simp; omega)) (by simp only [go_sem, Int.natCast_add, Nat.reduceAdd, Nat.reduceLT, Nat.reduceLeDiff, Nat.reduceEqDiff, Nat.reduceSub, Nat.reduceMul, Nat.reduceBEq, Nat.reduceBNe, Nat.reducePow, Nat.reduceDiv, Int.reduceLE, Int.reduceLT, Int.reduceToNat, Int.reduceNeg, Int.reduceAdd, Int.reduceSub, Int.reduceEq, reduceIte, reduceCtorEq, UInt8.reduceOfNat, Tr_fls] <;> (try and_intros) <;> (try omega)))
  ·
    have h6 : i = (atL root apps a).length := by have := of_decide_eq_false h; omega
    have h7 : fdx (shortF z) (atL root apps a) = -1 := fdx_no fun j hj => hi2 j hj (by omega)
    have h8 : (0 ≤ (-1 : Int)) = False := eq_false (by decide)
    with_reducible refine WA.exitX ?_
    repeat first | with_reducible refine WX.b ?_ | with_reducible refine WX.t ?_ | (with_reducible refine WX.n ?hne ?_; case hne => rfl)
    refine WA.regionK ty_ok hs fun K hK => ?_
    simp only [go_sem, Nat.reduceAdd, Nat.reduceLT, Nat.reduceLeDiff, Nat.reduceEqDiff, Nat.reduceSub, Nat.reduceMul, Nat.reduceBEq, Nat.reduceBNe, Nat.reducePow, Nat.reduceDiv, Int.reduceLE, Int.reduceLT, Int.reduceToNat, Int.reduceNeg, Int.reduceAdd, Int.reduceSub, Int.reduceEq, reduceIte, reduceCtorEq, UInt8.reduceOfNat, true_and]
    first
    | refine hK _ ?_
    | refine And.intro (by first | omega | (simp; done) | (simp; omega) | (simp +contextual; done) | (simp_all; done) | (simp_all; omega)) (hK _ ?_)
    clear hK K
    refine WA.retE ty_ok (xs := [.agg [.lit (.int .i64 (fndA (shortF z) root apps a f)), .lit (.int .i64 (fndF (shortF z) root apps a f))], .lit (.int .i64 (fndE (shortF z) root apps a f))]) (ls' := []) (rv := [.cell 6 46, .tmp 7]) rfl hX (by decide) (fun _ => rfl) (fun _ _ h => h) ?_
    simp only [go_sem, Nat.reduceAdd, Nat.reduceLT, Nat.reduceLeDiff, Nat.reduceEqDiff, Nat.reduceSub, Nat.reduceMul, Nat.reduceBEq, Nat.reduceBNe, Nat.reducePow, Nat.reduceDiv, Int.reduceLE, Int.reduceLT, Int.reduceToNat, Int.reduceNeg, Int.reduceAdd, Int.reduceSub, Int.reduceEq, reduceIte, reduceCtorEq, UInt8.reduceOfNat, sbT, fndA, fndF, fndE, h1, h7, h8]
end Go.Proofs.Ytnjmedihheblaaa
