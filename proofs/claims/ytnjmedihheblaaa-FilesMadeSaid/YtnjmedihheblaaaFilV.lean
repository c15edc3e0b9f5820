import Derived.Test.YtnjmedihheblaaaFilU
namespace Go.Proofs.Ytnjmedihheblaaa
open Go.RowKit Go.TravelBase Go.TravelAbs
set_option linter.unusedVariables false
set_option linter.unusedSimpArgs false












/-! ### The reference's Read -/
def sgY : Sg := fun f args ls =>
  match f, args, ls with
  | 45, [.agg [.li 5 xs, .li 2 ys], .agg [.lit (.int .i64 a), .lit (.int .i64 b)]], [] => some (.tup [.li 5 ((rtL (xs.map unF) (ys.map unP) a b).map flA), .lit (.int .i64 (rtE (xs.map unF) (ys.map unP) a b))], [], xs = (xs.map unF).map flA ∧ ys = (ys.map unP).map apA)
  | 37, [.agg [.li 5 xs, .li 2 ys], .agg [.lit (.int .i64 a), .lit (.int .i64 b)]], [] => some (.tup [.agg [.lit (.int .i64 (selF (xs.map unF) (ys.map unP) a b).level), .lit (.int .i64 (selF (xs.map unF) (ys.map unP) a b).right)], .lit (.int .i64 (selE (xs.map unF) (ys.map unP) a b))], [], xs = (xs.map unF).map flA ∧ ys = (ys.map unP).map apA)
  | 10, [.agg [.lit (.int .i64 l), .lit (.int .i64 r)], .agg [.lit (.int .i64 pw), .lit (.bool b1), .lit (.bool ch), .lit (.bool tm), .lit (.int .i64 rg)]], [] => some (.lit (.bool (alw l r ⟨pw, b1, ch, tm, rg⟩)), [], True)
  | _, _, _ => none
theorem sgY_ok : SgOK Try.prog sgY := by
  intro f args ls r ls' vc h hvc
  unfold sgY at h
  split at h <;> first | (simp only [Option.some.injEq, Prod.mk.injEq] at h; obtain ⟨rfl, rfl, rfl⟩ := h) | cases h
  · rename_i xs ys a b
    refine ⟨(fnOK Try.func45 (by decide) rfl), ?_⟩
    have := rat_s (xs.map unF) (ys.map unP) a b
    rw [← hvc.1, ← hvc.2] at this
    exact this
  · rename_i xs ys a b
    refine ⟨(fnOK Try.func37 (by decide) rfl), ?_⟩
    have := raccess_s (xs.map unF) (ys.map unP) a b
    rw [← hvc.1, ← hvc.2] at this
    exact this
  · rename_i l r pw b1 ch tm rg
    exact ⟨(fnOK Try.func10 (by decide) rfl), rallowed_s l r ⟨pw, b1, ch, tm, rg⟩⟩
theorem sel_at {root : List Fl} {apps : List Fap} {a f : Int} (h : selE root apps a f = 0) : atO root apps a f = true ∧ 0 ≤ f := by
  unfold selE at h
  by_cases q : atO root apps a f = true
  · rw [if_pos q] at h
    by_cases q2 : 0 ≤ f
    · exact ⟨q, q2⟩
    · rw [if_neg q2] at h; cases h
  · rw [if_neg q] at h; cases h
theorem atL_chk {root : List Fl} {apps : List Fap} {a f : Int} (h : atO root apps a f = true) : chk (atL root apps a) = 0 := by
  have hb := (atO_rng h).1
  have hv : val root apps = 0 := by unfold atB at hb; omega
  unfold val at hv
  by_cases q1 : apps.length > 4
  · rw [if_pos q1] at hv; cases hv
  rw [if_neg q1] at hv
  by_cases q2 : chk root ≠ 0
  · rw [if_pos q2] at hv; exact absurd hv q2
  rw [if_neg q2] at hv
  unfold atL
  rw [if_neg hb]
  by_cases q3 : a = -1
  · rw [if_pos q3]; omega
  rw [if_neg q3]
  have hg : a.toNat < apps.length := by unfold atB at hb; omega
  have := fstE_all hv _ hg
  unfold errP at this
  rw [dif_pos hg] at this
  have e : apps.getD a.toNat ⟨[], []⟩ = apps[a.toNat] := by simp [List.getD, List.getElem?_eq_getElem hg]
  rw [e]
  split at this
  · cases this
  · split at this
    · cases this
    · exact this
theorem chk_content {l : List Fl} (h : chk l = 0) {i : Nat} (hi : i < l.length) : l[i].content.length ≤ 4096 := by
  have h2 := chk_len h
  unfold chk at h
  rw [if_neg (by omega)] at h
  have := fstE_all h i hi
  unfold errAt at this
  rw [dif_pos hi] at this
  by_cases q1 : l[i].id < 1 ∨ l[i].id > 65535 ∨ l[i].short < 0 ∨ l[i].short > 30
  · rw [if_pos q1] at this; cases this
  rw [if_neg q1] at this
  by_cases q2 : l[i].level < 0 ∨ l[i].level > 4 ∨ l[i].right < 0 ∨ l[i].right > (if l[i].level = 3 then 15 else 0)
  · rw [if_pos q2] at this; cases this
  rw [if_neg q2] at this
  by_cases q3 : l[i].content.length > 4096
  · rw [if_pos q3] at this; cases this
  omega
theorem rread_s (root : List Fl) (apps : List Fap) (a f : Int) (s : Stt) (o n : Int) : FnS Try.prog 28 [.agg [.li 5 (root.map flA), .li 2 (apps.map apA)], .agg [.lit (.int .i64 a), .lit (.int .i64 f)], .agg [.lit (.int .i64 s.pw), .lit (.bool s.b1), .lit (.bool s.chip), .lit (.bool s.term), .lit (.int .i64 s.rights)], .lit (.int .i64 o), .lit (.int .i64 n)] []
    (.tup [.by_ (rdB root apps a f s o n), .lit (.bool (rdN root apps a f s o n)), .lit (.int .i64 (rdE root apps a f s o n))]) [] := by
  have hs := sgY_ok
  refine FnS.of Try.func28 rfl (N := 82) rfl (by simp) (by simp) fun X hX => ?_
  simp only [tmArgs, lentH, Nat.reduceAdd]
  refine WA.regionK ty_ok hs fun K hK => ?_
  simp only [go_sem, Nat.reduceAdd, Nat.reduceLT, Nat.reduceLeDiff, Nat.reduceEqDiff, Nat.reduceSub, Nat.reduceMul, Nat.reduceBEq, Nat.reduceBNe, Nat.reducePow, Nat.reduceDiv, Int.reduceLE, Int.reduceLT, Int.reduceToNat, Int.reduceNeg, Int.reduceAdd, Int.reduceSub, Int.reduceEq, reduceIte, reduceCtorEq, UInt8.reduceOfNat, true_and]
  first
  | refine hK _ ?_
  | refine And.intro (by first | omega | (simp; done) | (simp; omega) | (simp +contextual; done) | (simp_all; done) | (simp_all; omega)) (hK _ ?_)
  clear hK K
  refine WA.regionK ty_ok hs fun K hK => ?_
  simp only [go_sem, Nat.reduceAdd, Nat.reduceLT, Nat.reduceLeDiff, Nat.reduceEqDiff, Nat.reduceSub, Nat.reduceMul, Nat.reduceBEq, Nat.reduceBNe, Nat.reducePow, Nat.reduceDiv, Int.reduceLE, Int.reduceLT, Int.reduceToNat, Int.reduceNeg, Int.reduceAdd, Int.reduceSub, Int.reduceEq, reduceIte, reduceCtorEq, UInt8.reduceOfNat, sgY, Tr_fls, Tr_aps, un_fls, un_aps]
  first
  | refine hK _ ?_
  | refine And.intro (by first | omega | (simp; done) | (simp; omega) | (simp +contextual; done) | (simp_all; done) | (simp_all; omega)) (hK _ ?_)
  clear hK K
  obtain ⟨x, hx⟩ : ∃ x, selF root apps a f = x := ⟨_, rfl⟩
  rw [hx]
  refine WA.seq ?_
  refine WA.regionK ty_ok hs fun K hK => ?_
  simp only [go_sem, Nat.reduceAdd, Nat.reduceLT, Nat.reduceLeDiff, Nat.reduceEqDiff, Nat.reduceSub, Nat.reduceMul, Nat.reduceBEq, Nat.reduceBNe, Nat.reducePow, Nat.reduceDiv, Int.reduceLE, Int.reduceLT, Int.reduceToNat, Int.reduceNeg, Int.reduceAdd, Int.reduceSub, Int.reduceEq, reduceIte, reduceCtorEq, UInt8.reduceOfNat, true_and]
  first
  | refine hK _ ?_
  | refine And.intro (by first | omega | (simp; done) | (simp; omega) | (simp +contextual; done) | (simp_all; done) | (simp_all; omega)) (hK _ ?_)
  clear hK K
  refine WA.cond rfl (fun h => ?_) (fun h => ?_)
  ·
    have h1 : selE root apps a f ≠ 0 := by simpa using h
    have e : rdE root apps a f s o n = selE root apps a f := if_pos h1
    refine WA.regionK ty_ok hs fun K hK => ?_
    simp only [go_sem, Nat.reduceAdd, Nat.reduceLT, Nat.reduceLeDiff, Nat.reduceEqDiff, Nat.reduceSub, Nat.reduceMul, Nat.reduceBEq, Nat.reduceBNe, Nat.reducePow, Nat.reduceDiv, Int.reduceLE, Int.reduceLT, Int.reduceToNat, Int.reduceNeg, Int.reduceAdd, Int.reduceSub, Int.reduceEq, reduceIte, reduceCtorEq, UInt8.reduceOfNat, true_and]
    first
    | refine hK _ ?_
    | refine And.intro (by first | omega | (simp; done) | (simp; omega) | (simp +contextual; done) | (simp_all; done) | (simp_all; omega)) (hK _ ?_)
    clear hK K
    refine WA.retE ty_ok (xs := [.by_ (rdB root apps a f s o n), .lit (.bool (rdN root apps a f s o n)), .lit (.int .i64 (rdE root apps a f s o n))]) (ls' := []) (rv := [.tmp 10, .tmp 11, .tmp 12]) rfl hX (by decide) (fun _ => rfl) (fun _ _ h => h) ?_
    simp only [go_sem, Nat.reduceAdd, Nat.reduceLT, Nat.reduceLeDiff, Nat.reduceEqDiff, Nat.reduceSub, Nat.reduceMul, Nat.reduceBEq, Nat.reduceBNe, Nat.reducePow, Nat.reduceDiv, Int.reduceLE, Int.reduceLT, Int.reduceToNat, Int.reduceNeg, Int.reduceAdd, Int.reduceSub, Int.reduceEq, reduceIte, reduceCtorEq, UInt8.reduceOfNat, sbT, rdB, rdN, e, h1]
  with_reducible refine WA.skipN ?_
  repeat first | with_reducible refine WN.t ?_ | with_reducible refine WN.b ?_
  have h1 : ¬ selE root apps a f ≠ 0 := by simpa using h
  clear h
  have hS : (⟨s.pw, s.b1, s.chip, s.term, s.rights⟩ : Stt) = s := rfl
  refine WA.seq ?_
  refine WA.regionK ty_ok hs fun K hK => ?_
  simp only [go_sem, Nat.reduceAdd, Nat.reduceLT, Nat.reduceLeDiff, Nat.reduceEqDiff, Nat.reduceSub, Nat.reduceMul, Nat.reduceBEq, Nat.reduceBNe, Nat.reducePow, Nat.reduceDiv, Int.reduceLE, Int.reduceLT, Int.reduceToNat, Int.reduceNeg, Int.reduceAdd, Int.reduceSub, Int.reduceEq, reduceIte, reduceCtorEq, UInt8.reduceOfNat, sgY, hS]
  first
  | refine hK _ ?_
  | refine And.intro (by first | omega | (simp; done) | (simp; omega) | (simp +contextual; done) | (simp_all; done) | (simp_all; omega)) (hK _ ?_)
  clear hK K
  refine WA.cond rfl (fun h => ?_) (fun h => ?_)
  ·
    have h2 : alw x.level x.right s = false := by simpa using h
    have e : rdE root apps a f s o n = 19 := by unfold rdE; rw [if_neg h1, hx, if_pos h2]
    refine WA.regionK ty_ok hs fun K hK => ?_
    simp only [go_sem, Nat.reduceAdd, Nat.reduceLT, Nat.reduceLeDiff, Nat.reduceEqDiff, Nat.reduceSub, Nat.reduceMul, Nat.reduceBEq, Nat.reduceBNe, Nat.reducePow, Nat.reduceDiv, Int.reduceLE, Int.reduceLT, Int.reduceToNat, Int.reduceNeg, Int.reduceAdd, Int.reduceSub, Int.reduceEq, reduceIte, reduceCtorEq, UInt8.reduceOfNat, true_and]
    first
    | refine hK _ ?_
    | refine And.intro (by first | omega | (simp; done) | (simp; omega) | (simp +contextual; done) | (simp_all; done) | (simp_all; omega)) (hK _ ?_)
    clear hK K
    refine WA.retE ty_ok (xs := [.by_ (rdB root apps a f s o n), .lit (.bool (rdN root apps a f s o n)), .lit (.int .i64 (rdE root apps a f s o n))]) (ls' := []) (rv := [.tmp 10, .tmp 11, .tmp 12]) rfl hX (by decide) (fun _ => rfl) (fun _ _ h => h) ?_
    simp only [go_sem, Nat.reduceAdd, Nat.reduceLT, Nat.reduceLeDiff, Nat.reduceEqDiff, Nat.reduceSub, Nat.reduceMul, Nat.reduceBEq, Nat.reduceBNe, Nat.reducePow, Nat.reduceDiv, Int.reduceLE, Int.reduceLT, Int.reduceToNat, Int.reduceNeg, Int.reduceAdd, Int.reduceSub, Int.reduceEq, reduceIte, reduceCtorEq, UInt8.reduceOfNat, sbT, rdB, rdN, e]
  with_reducible refine WA.skipN ?_
  repeat first | with_reducible refine WN.t ?_ | with_reducible refine WN.b ?_
  have h2 : ¬ alw x.level x.right s = false := by simpa using h
  clear h
  obtain ⟨q1, q2⟩ := sel_at (by simpa using h1)
  obtain ⟨_, q3, q4⟩ := atO_rng q1
  have e3 : rtL root apps a f = atL root apps a := if_pos q1
  refine WA.regionK ty_ok hs fun K hK => ?_
  simp only [go_sem, Nat.reduceAdd, Nat.reduceLT, Nat.reduceLeDiff, Nat.reduceEqDiff, Nat.reduceSub, Nat.reduceMul, Nat.reduceBEq, Nat.reduceBNe, Nat.reducePow, Nat.reduceDiv, Int.reduceLE, Int.reduceLT, Int.reduceToNat, Int.reduceNeg, Int.reduceAdd, Int.reduceSub, Int.reduceEq, reduceIte, reduceCtorEq, UInt8.reduceOfNat, sgY, Tr_fls, Tr_aps, un_fls, un_aps, e3]
  first
  | refine hK _ ?_
  | refine And.intro (by first | omega | (simp; done) | (simp; omega) | (simp +contextual; done) | (simp_all; done) | (simp_all; omega)) (hK _ ?_)
  clear hK K
  have q5 : f.toNat < (atL root apps a).length := by omega
  have g1 := fl_at q5
  have hx2 : (atL root apps a)[f.toNat] = x := by
    rw [← hx]
    unfold selF
    rw [if_pos ⟨q1, q2⟩]
    simp [List.getD, List.getElem?_eq_getElem q5]
  have hcl := chk_content (atL_chk q1) q5
  rw [hx2] at g1 hcl
  refine WA.regionK ty_ok hs fun K hK => ?_
  simp only [go_sem, Nat.reduceAdd, Nat.reduceLT, Nat.reduceLeDiff, Nat.reduceEqDiff, Nat.reduceSub, Nat.reduceMul, Nat.reduceBEq, Nat.reduceBNe, Nat.reducePow, Nat.reduceDiv, Int.reduceLE, Int.reduceLT, Int.reduceToNat, Int.reduceNeg, Int.reduceAdd, Int.reduceSub, Int.reduceEq, reduceIte, reduceCtorEq, UInt8.reduceOfNat, g1]
  first
  | refine hK _ ?_
  | refine And.intro (by first | omega | (simp; done) | (simp; omega) | (simp +contextual; done) | (simp_all; done) | (simp_all; omega)) (hK _ ?_)
  clear hK K
  refine WA.seq ?_
  refine WA.regionK ty_ok hs fun K hK => ?_
  simp only [go_sem, Nat.reduceAdd, Nat.reduceLT, Nat.reduceLeDiff, Nat.reduceEqDiff, Nat.reduceSub, Nat.reduceMul, Nat.reduceBEq, Nat.reduceBNe, Nat.reducePow, Nat.reduceDiv, Int.reduceLE, Int.reduceLT, Int.reduceToNat, Int.reduceNeg, Int.reduceAdd, Int.reduceSub, Int.reduceEq, reduceIte, reduceCtorEq, UInt8.reduceOfNat, true_and]
  first
  | refine hK _ ?_
  | refine And.intro (by first | omega | (simp; done) | (simp; omega) | (simp +contextual; done) | (simp_all; done) | (simp_all; omega)) (hK _ ?_)
  clear hK K
  refine WA.cond rfl (fun h => ?_) (fun h => ?_)
  ·
    have h3 : n < 1 ∨ n > 4096 ∨ o < 0 ∨ o > x.content.length := by
      revert h
      by_cases q1 : n < 1 <;> by_cases q2 : n > 4096 <;> by_cases q3 : o < 0 <;> simp [q1, q2, q3]
    have e : rdE root apps a f s o n = 3 := by unfold rdE; rw [if_neg h1, hx, if_neg h2, if_pos h3]
    refine WA.regionK ty_ok hs fun K hK => ?_
    simp only [go_sem, Nat.reduceAdd, Nat.reduceLT, Nat.reduceLeDiff, Nat.reduceEqDiff, Nat.reduceSub, Nat.reduceMul, Nat.reduceBEq, Nat.reduceBNe, Nat.reducePow, Nat.reduceDiv, Int.reduceLE, Int.reduceLT, Int.reduceToNat, Int.reduceNeg, Int.reduceAdd, Int.reduceSub, Int.reduceEq, reduceIte, reduceCtorEq, UInt8.reduceOfNat, true_and]
    first
    | refine hK _ ?_
    | refine And.intro (by first | omega | (simp; done) | (simp; omega) | (simp +contextual; done) | (simp_all; done) | (simp_all; omega)) (hK _ ?_)
    clear hK K
    refine WA.retE ty_ok (xs := [.by_ (rdB root apps a f s o n), .lit (.bool (rdN root apps a f s o n)), .lit (.int .i64 (rdE root apps a f s o n))]) (ls' := []) (rv := [.tmp 10, .tmp 11, .tmp 12]) rfl hX (by decide) (fun _ => rfl) (fun _ _ h => h) ?_
    simp only [go_sem, Nat.reduceAdd, Nat.reduceLT, Nat.reduceLeDiff, Nat.reduceEqDiff, Nat.reduceSub, Nat.reduceMul, Nat.reduceBEq, Nat.reduceBNe, Nat.reducePow, Nat.reduceDiv, Int.reduceLE, Int.reduceLT, Int.reduceToNat, Int.reduceNeg, Int.reduceAdd, Int.reduceSub, Int.reduceEq, reduceIte, reduceCtorEq, UInt8.reduceOfNat, sbT, rdB, rdN, e]
  with_reducible refine WA.skipN ?_
  repeat first | with_reducible refine WN.t ?_ | with_reducible refine WN.b ?_
  have h3 : ¬(n < 1 ∨ n > 4096 ∨ o < 0 ∨ o > x.content.length) := by
    revert h
    by_cases q1 : n < 1 <;> by_cases q2 : n > 4096 <;> by_cases q3 : o < 0 <;> simp [q1, q2, q3]
  clear h
  have e : rdE root apps a f s o n = 0 := by unfold rdE; rw [if_neg h1, hx, if_neg h2, if_neg h3]
  have hd : (x.content.drop o.toNat).length = x.content.length - o.toNat := List.length_drop
  have hl : ((x.content.length - o.toNat : Nat) : Int) = (x.content.length : Int) - o := by omega
  refine WA.seq ?_
  refine WA.regionK ty_ok hs fun K hK => ?_
  simp only [go_sem, Nat.reduceAdd, Nat.reduceLT, Nat.reduceLeDiff, Nat.reduceEqDiff, Nat.reduceSub, Nat.reduceMul, Nat.reduceBEq, Nat.reduceBNe, Nat.reducePow, Nat.reduceDiv, Int.reduceLE, Int.reduceLT, Int.reduceToNat, Int.reduceNeg, Int.reduceAdd, Int.reduceSub, Int.reduceEq, reduceIte, reduceCtorEq, UInt8.reduceOfNat, true_and]
  first
  | refine hK _ ?_
  | refine And.intro (by first | omega | (simp; done) | (simp; omega) | (simp +contextual; done) | (simp_all; done) | (simp_all; omega)) (hK _ ?_)
  clear hK K
  refine WA.cond rfl (fun h => ?_) (fun h => ?_)
  ·
    have h4 : n > (x.content.length : Int) - o := of_decide_eq_true h
    refine WA.regionE ty_ok hs fun K hK => ?_
    simp only [go_sem, Nat.reduceAdd, Nat.reduceLT, Nat.reduceLeDiff, Nat.reduceEqDiff, Nat.reduceSub, Nat.reduceMul, Nat.reduceBEq, Nat.reduceBNe, Nat.reducePow, Nat.reduceDiv, Int.reduceLE, Int.reduceLT, Int.reduceToNat, Int.reduceNeg, Int.reduceAdd, Int.reduceSub, Int.reduceEq, reduceIte, reduceCtorEq, UInt8.reduceOfNat, true_and]
    repeat refine And.intro (by first | omega | assumption | (simp; done) | (simp; omega) | (simp +contextual; done) | (simp_all; done) | (simp_all; omega)) ?_
    with_reducible refine hK _ (WN.mk ?_)
    clear hK K
    repeat first | with_reducible refine WN.t ?_ | with_reducible refine WN.b ?_
    have z1 : o + ((x.content.length : Int) - o) = (x.content.length : Nat) := by omega
    have z2 : (((x.content.length : Nat) : Int)).toNat = x.content.length := Int.toNat_natCast _
    have z4 : (x.content.drop o.toNat).take n.toNat = x.content.drop o.toNat := List.take_of_length_le (by omega)
    have z5 : (((x.content.length : Nat) : Int) == (x.content.length : Nat)) = true := beq_self_eq_true _
    have z6 : (n ≥ (x.content.length : Int) - o) = True := eq_true (by omega)
    refine WA.regionK ty_ok hs fun K hK => ?_
    simp only [go_sem, Nat.reduceAdd, Nat.reduceLT, Nat.reduceLeDiff, Nat.reduceEqDiff, Nat.reduceSub, Nat.reduceMul, Nat.reduceBEq, Nat.reduceBNe, Nat.reducePow, Nat.reduceDiv, Int.reduceLE, Int.reduceLT, Int.reduceToNat, Int.reduceNeg, Int.reduceAdd, Int.reduceSub, Int.reduceEq, reduceIte, reduceCtorEq, UInt8.reduceOfNat, z1, z2, z5, Nat.le_refl, List.take_length]
    first
    | refine hK _ ?_
    | refine And.intro (by first | omega | (simp; done) | (simp; omega) | (simp +contextual; done) | (simp_all; done) | (simp_all; omega)) (hK _ ?_)
    clear hK K
    refine WA.retE ty_ok (xs := [.by_ (rdB root apps a f s o n), .lit (.bool (rdN root apps a f s o n)), .lit (.int .i64 (rdE root apps a f s o n))]) (ls' := []) (rv := [.tmp 10, .tmp 11, .tmp 12]) rfl hX (by decide) (fun _ => rfl) (fun _ _ h => h) ?_
    simp only [go_sem, Nat.reduceAdd, Nat.reduceLT, Nat.reduceLeDiff, Nat.reduceEqDiff, Nat.reduceSub, Nat.reduceMul, Nat.reduceBEq, Nat.reduceBNe, Nat.reducePow, Nat.reduceDiv, Int.reduceLE, Int.reduceLT, Int.reduceToNat, Int.reduceNeg, Int.reduceAdd, Int.reduceSub, Int.reduceEq, reduceIte, reduceCtorEq, UInt8.reduceOfNat, sbT, rdB, rdN, e, hx, z4, z6, z1, z2, z5]
    exact ⟨Nat.le_refl _, List.take_of_length_le (by omega)⟩
  ·
    with_reducible refine WA.skipN ?_
    repeat first | with_reducible refine WN.t ?_ | with_reducible refine WN.b ?_
    have h4 : ¬ n > (x.content.length : Int) - o := of_decide_eq_false h
    have z1 : (o + n).toNat = o.toNat + n.toNat := by omega
    have z2 : (o.toNat + n.toNat ≤ x.content.length) = True := eq_true (by omega)
    have z3 : o.toNat + n.toNat - o.toNat = n.toNat := by omega
    have z4 : (x.content.take (o.toNat + n.toNat)).drop o.toNat = (x.content.drop o.toNat).take n.toNat := by rw [List.drop_take, z3]
    have z5 : (o + n == (x.content.length : Int)) = decide (n ≥ (x.content.length : Int) - o) := by
      by_cases q : n ≥ (x.content.length : Int) - o
      · rw [decide_eq_true q]; exact beq_iff_eq.2 (by omega)
      · rw [decide_eq_false q]; exact beq_eq_false_iff_ne.2 (by omega)
    refine WA.regionK ty_ok hs fun K hK => ?_
    simp only [go_sem, Nat.reduceAdd, Nat.reduceLT, Nat.reduceLeDiff, Nat.reduceEqDiff, Nat.reduceSub, Nat.reduceMul, Nat.reduceBEq, Nat.reduceBNe, Nat.reducePow, Nat.reduceDiv, Int.reduceLE, Int.reduceLT, Int.reduceToNat, Int.reduceNeg, Int.reduceAdd, Int.reduceSub, Int.reduceEq, reduceIte, reduceCtorEq, UInt8.reduceOfNat, z1, z2, z3, z4, z5]
    first
    | refine hK _ ?_
    | refine And.intro (by first | omega | (simp; done) | (simp; omega) | (simp +contextual; done) | (simp_all; done) | (simp_all; omega)) (hK _ ?_)
    clear hK K
    refine WA.retE ty_ok (xs := [.by_ (rdB root apps a f s o n), .lit (.bool (rdN root apps a f s o n)), .lit (.int .i64 (rdE root apps a f s o n))]) (ls' := []) (rv := [.tmp 10, .tmp 11, .tmp 12]) rfl hX (by decide) (fun _ => rfl) (fun _ _ h => h) ?_
    simp only [go_sem, Nat.reduceAdd, Nat.reduceLT, Nat.reduceLeDiff, Nat.reduceEqDiff, Nat.reduceSub, Nat.reduceMul, Nat.reduceBEq, Nat.reduceBNe, Nat.reducePow, Nat.reduceDiv, Int.reduceLE, Int.reduceLT, Int.reduceToNat, Int.reduceNeg, Int.reduceAdd, Int.reduceSub, Int.reduceEq, reduceIte, reduceCtorEq, UInt8.reduceOfNat, sbT, rdB, rdN, e, hx, z1, z2, z3, z4, z5]
    have z7 : n.toNat ≤ x.content.length - o.toNat := by omega
    rw [if_pos z7]
    exact ⟨Nat.le_refl _, by rw [List.take_take, Nat.min_self]⟩

end Go.Proofs.Ytnjmedihheblaaa
