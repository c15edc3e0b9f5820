import Derived.Test.YtnjmedihheblaaaFilF
import Derived.Test.YtnjmedihheblaaaDiceA
namespace Go.Proofs.Ytnjmedihheblaaa
open Go.RowKit Go.TravelBase Go.TravelAbs
set_option linter.unusedVariables false
set_option linter.unusedSimpArgs false











/-! ### The law FilesReads -/
def cF (c : List UInt8) : Fl := ⟨3, 2, c, 0, 0⟩
theorem u1 (c : List UInt8) : unF (.agg [.lit (.int .i64 3), .lit (.int .i64 2), .by_ c, .lit (.int .i64 0), .lit (.int .i64 0)]) = cF c := rfl
theorem f1 (c : List UInt8) : flA (cF c) = .agg [.lit (.int .i64 3), .lit (.int .i64 2), .by_ c, .lit (.int .i64 0), .lit (.int .i64 0)] := rfl
theorem vl1 {c : List UInt8} (h : c.length ≤ 200) : val [cF c] [] = 0 := by
  have h2 : ¬ c.length > 4096 := by omega
  simp [val, chk, fstE, errAt, errP, cF, h2]
theorem at1 {c : List UInt8} (h : c.length ≤ 200) : ¬ atB [cF c] [] (-1) := by
  unfold atB
  rw [vl1 h]
  simp
theorem aL1 {c : List UInt8} (h : c.length ≤ 200) : atL [cF c] [] (-1) = [cF c] := by
  unfold atL
  rw [if_neg (at1 h), if_pos rfl]
theorem aO1 {c : List UInt8} (h : c.length ≤ 200) : atO [cF c] [] (-1) (-1) = true ∧ atO [cF c] [] (-1) 0 = true := by
  unfold atO
  rw [aL1 h, decide_eq_false (at1 h)]
  exact ⟨rfl, rfl⟩
theorem fx1 (c : List UInt8) : fdx (shortF 2) [cF c] = 0 := rfl
theorem sh1 {c : List UInt8} (h : c.length ≤ 200) : fndA (shortF 2) [cF c] [] (-1) (-1) = -1 ∧ fndF (shortF 2) [cF c] [] (-1) (-1) = 0 ∧ fndE (shortF 2) [cF c] [] (-1) (-1) = 0 := by
  have h0 := aO1 h
  unfold fndA fndF fndE
  rw [aL1 h, h0.1, fx1]
  simp
theorem sel1 {c : List UInt8} (h : c.length ≤ 200) : selF [cF c] [] (-1) 0 = cF c ∧ selE [cF c] [] (-1) 0 = 0 := by
  have h0 := aO1 h
  unfold selF selE
  rw [aL1 h, h0.2]
  exact ⟨rfl, rfl⟩
theorem rd1 {c : List UInt8} (h : c.length ≤ 200) {o n : Int} (ho : 0 ≤ o) (ho2 : o ≤ c.length) (hn : 1 ≤ n) (hn2 : n ≤ 50) : rdE [cF c] [] (-1) 0 ⟨0, false, false, false, 0⟩ o n = 0 := by
  have h1 := sel1 h
  unfold rdE
  rw [h1.1, h1.2, if_neg (by simp), if_neg (by simp [alw, cF]), if_neg (by show ¬(n < 1 ∨ n > 4096 ∨ o < 0 ∨ o > (c.length : Int)); omega)]
theorem rb1 {c : List UInt8} (h : c.length ≤ 200) {o n : Int} (ho : 0 ≤ o) (ho2 : o ≤ c.length) (hn : 1 ≤ n) (hn2 : n ≤ 50) : rdB [cF c] [] (-1) 0 ⟨0, false, false, false, 0⟩ o n = (c.drop o.toNat).take n.toNat := by
  unfold rdB
  rw [if_pos (rd1 h ho ho2 hn hn2), (sel1 h).1]
  rfl
theorem rn1 {c : List UInt8} (h : c.length ≤ 200) {o n : Int} (ho : 0 ≤ o) (ho2 : o ≤ c.length) (hn : 1 ≤ n) (hn2 : n ≤ 50) : rdN [cF c] [] (-1) 0 ⟨0, false, false, false, 0⟩ o n = decide (n ≥ ((c.length : Nat) : Int) - o) := by
  unfold rdN
  rw [if_pos (rd1 h ho ho2 hn hn2), (sel1 h).1]
  rfl
def sgR : Sg := fun f args ls =>
  match f, args, ls with
  | 11, [.li 1 xs], [] => some (.lit (.bool (decide ((xs.length : Int) ≤ 400))), [], True)
  | 12, [.li 1 xs], [] => some (.fr (.opt true (.li 2 [.agg [.li 1 xs, .lit (.int .i64 0)]])), [], Tr (.li 1 xs) = True)
  | 17, [.lit (.int .i64 x), .lit (.int .i64 n)], [] => some (.lit (.int .i64 (x % n)), [], (1 ≤ n ∧ n ≤ 4611686018427387904) ∧ -9223372036854775808 ≤ x ∧ x ≤ 9223372036854775807)
  | 8, [], [] => some (.lit (.bool true), [], True)
  | 20, [.by_ a, .by_ b], [] => some (.lit (.bool (decide (a = b))), [], True)
  | 18, [.agg [.li 5 xs, .li 2 ys], .agg [.lit (.int .i64 a), .lit (.int .i64 b)], .lit (.int .i64 z)], [] => some (.tup [.agg [.lit (.int .i64 (fndA (shortF z) (xs.map unF) (ys.map unP) a b)), .lit (.int .i64 (fndF (shortF z) (xs.map unF) (ys.map unP) a b))], .lit (.int .i64 (fndE (shortF z) (xs.map unF) (ys.map unP) a b))], [], xs = (xs.map unF).map flA ∧ ys = (ys.map unP).map apA)
  | 19, [.agg [.li 5 xs, .li 2 ys], .agg [.lit (.int .i64 a), .lit (.int .i64 b)], .agg [.lit (.int .i64 pw), .lit (.bool b1), .lit (.bool ch), .lit (.bool tm), .lit (.int .i64 rg)], .lit (.int .i64 o), .lit (.int .i64 n)], [] => some (.tup [.by_ (rdB (xs.map unF) (ys.map unP) a b ⟨pw, b1, ch, tm, rg⟩ o n), .lit (.bool (rdN (xs.map unF) (ys.map unP) a b ⟨pw, b1, ch, tm, rg⟩ o n)), .lit (.int .i64 (rdE (xs.map unF) (ys.map unP) a b ⟨pw, b1, ch, tm, rg⟩ o n))], [], xs = (xs.map unF).map flA ∧ ys = (ys.map unP).map apA)
  | _, _, _ => none
theorem sgR_ok : SgOK Try.prog sgR := by
  intro f args ls r ls' vc h hvc
  unfold sgR at h
  split at h <;> first | (simp only [Option.some.injEq, Prod.mk.injEq] at h; obtain ⟨rfl, rfl, rfl⟩ := h) | cases h
  · exact ⟨(fnOK Try.func11 (by decide) rfl), light_s _⟩
  · exact ⟨(fnOK Try.func12 (by decide) rfl), roll_s _ hvc⟩
  · exact ⟨(fnOK Try.func17 (by decide) rfl), mod_s _ _ hvc.1.1 hvc.1.2 hvc.2⟩
  · exact ⟨(fnOK Try.func8 (by decide) rfl), awake_s⟩
  · exact ⟨(fnOK Try.func20 (by decide) rfl), rsame_s _ _⟩
  · rename_i xs ys a b z
    refine ⟨(fnOK Try.func18 (by decide) rfl), ?_⟩
    have := short_s (xs.map unF) (ys.map unP) a b z
    rw [← hvc.1, ← hvc.2] at this
    exact this
  · rename_i xs ys a b pw b1 ch tm rg o n
    refine ⟨(fnOK Try.func19 (by decide) rfl), ?_⟩
    have := read_s (xs.map unF) (ys.map unP) a b ⟨pw, b1, ch, tm, rg⟩ o n
    rw [← hvc.1, ← hvc.2] at this
    exact this
def stR : Sg2 := fun f args ls =>
  match f, args, ls with
  | 16, [.ptr 0 0 0, .lit (.int .i64 most)], [.li 2 [.agg [L, .lit (.int .i64 z)]]] => some ⟨List UInt8 × Int, fun i => (i.1.length : Int) ≤ most ∧ DcOK L i.2, fun i => .fr (.by_ i.1), fun i => [.li 2 [.agg [L, .lit (.int .i64 i.2)]]], DcOK L z ∧ 0 ≤ most ∧ most ≤ 1000000⟩
  | _, _, _ => none
theorem stR_ok : Sg2OK Try.prog stR := by
  intro f args ls R h hvc
  unfold stR at h
  split at h <;> first | (simp only [Option.some.injEq] at h; subst h) | cases h
  · exact ⟨(fnOK Try.func16 (by decide) rfl), bytes_e _ _ _ hvc.1 hvc.2.1 hvc.2.2⟩
theorem reads_s (l : List Int) (sz : Int) (hl : ∀ y ∈ l, -9223372036854775808 ≤ y ∧ y ≤ 9223372036854775807) (hsz : -9223372036854775808 ≤ sz ∧ sz ≤ 9223372036854775807) : FnS Try.prog 5 [.li 1 (l.map iA), .lit (.int .i64 sz)] [] (.lit (.bool true)) [] := by
  have hs := sgR_ok
  have ht := stR_ok
  have hT := Tr_ia l
  refine FnS.of Try.func5 rfl (N := 77) rfl (by simp) (by simp) fun X hX => ?_
  simp only [tmArgs, lentH, Nat.reduceAdd]
  refine WA.regionK ty_ok hs fun K hK => ?_
  simp only [go_sem, Nat.reduceAdd, Nat.reduceLT, Nat.reduceLeDiff, Nat.reduceEqDiff, Nat.reduceSub, Nat.reduceMul, Nat.reduceBEq, Nat.reduceBNe, Nat.reducePow, Nat.reduceDiv, Int.reduceLE, Int.reduceLT, Int.reduceToNat, Int.reduceNeg, Int.reduceAdd, Int.reduceSub, Int.reduceEq, reduceIte, reduceCtorEq, UInt8.reduceOfNat, sgR]
  first
  | refine hK _ ?_
  | refine And.intro (by first | omega | (simp; done) | (simp; omega) | (simp +contextual; done) | (simp_all; done) | (simp_all; omega)) (hK _ ?_)
  clear hK K
  refine WA.seq ?_
  refine WA.regionK ty_ok hs fun K hK => ?_
  simp only [go_sem, Nat.reduceAdd, Nat.reduceLT, Nat.reduceLeDiff, Nat.reduceEqDiff, Nat.reduceSub, Nat.reduceMul, Nat.reduceBEq, Nat.reduceBNe, Nat.reducePow, Nat.reduceDiv, Int.reduceLE, Int.reduceLT, Int.reduceToNat, Int.reduceNeg, Int.reduceAdd, Int.reduceSub, Int.reduceEq, reduceIte, reduceCtorEq, UInt8.reduceOfNat, sgR]
  first
  | refine hK _ ?_
  | refine And.intro (by first | omega | (simp; done) | (simp; omega) | (simp +contextual; done) | (simp_all; done) | (simp_all; omega)) (hK _ ?_)
  clear hK K
  refine WA.cond rfl (fun h => ?_) (fun h => ?_)
  ·
    refine WA.regionK ty_ok hs fun K hK => ?_
    simp only [go_sem, Nat.reduceAdd, Nat.reduceLT, Nat.reduceLeDiff, Nat.reduceEqDiff, Nat.reduceSub, Nat.reduceMul, Nat.reduceBEq, Nat.reduceBNe, Nat.reducePow, Nat.reduceDiv, Int.reduceLE, Int.reduceLT, Int.reduceToNat, Int.reduceNeg, Int.reduceAdd, Int.reduceSub, Int.reduceEq, reduceIte, reduceCtorEq, UInt8.reduceOfNat, sgR]
    first
    | refine hK _ ?_
    | refine And.intro (by first | omega | (simp; done) | (simp; omega) | (simp +contextual; done) | (simp_all; done) | (simp_all; omega)) (hK _ ?_)
    clear hK K
    refine WA.retE ty_ok (xs := [.lit (.bool true)]) (ls' := []) (rv := [.tmp 4]) rfl hX (by decide) (fun _ => rfl) (fun _ _ h => h) ?_
    simp only [go_sem, Nat.reduceAdd, Nat.reduceLT, Nat.reduceLeDiff, Nat.reduceEqDiff, Nat.reduceSub, Nat.reduceMul, Nat.reduceBEq, Nat.reduceBNe, Nat.reducePow, Nat.reduceDiv, Int.reduceLE, Int.reduceLT, Int.reduceToNat, Int.reduceNeg, Int.reduceAdd, Int.reduceSub, Int.reduceEq, reduceIte, reduceCtorEq, UInt8.reduceOfNat, sbT]
  ·
    with_reducible refine WA.skipN ?_
    repeat first | with_reducible refine WN.t ?_ | with_reducible refine WN.b ?_
    have h6 : l.length ≤ 400 := by simp at h; omega
    have hd := dc_roll hl h6
    clear h
    refine WA.regionK ty_ok hs fun K hK => ?_
    simp only [go_sem, Nat.reduceAdd, Nat.reduceLT, Nat.reduceLeDiff, Nat.reduceEqDiff, Nat.reduceSub, Nat.reduceMul, Nat.reduceBEq, Nat.reduceBNe, Nat.reducePow, Nat.reduceDiv, Int.reduceLE, Int.reduceLT, Int.reduceToNat, Int.reduceNeg, Int.reduceAdd, Int.reduceSub, Int.reduceEq, reduceIte, reduceCtorEq, UInt8.reduceOfNat, sgR, hT]
    first
    | refine hK _ ?_
    | refine And.intro (by first | omega | (simp; done) | (simp; omega) | (simp +contextual; done) | (simp_all; done) | (simp_all; omega)) (hK _ ?_)
    clear hK K
    refine WA.regQ ty_ok hs ht fun K hK => ?_
    simp only [go_sem, Nat.reduceAdd, Nat.reduceLT, Nat.reduceLeDiff, Nat.reduceEqDiff, Nat.reduceSub, Nat.reduceMul, Nat.reduceBEq, Nat.reduceBNe, Nat.reducePow, Nat.reduceDiv, Int.reduceLE, Int.reduceLT, Int.reduceToNat, Int.reduceNeg, Int.reduceAdd, Int.reduceSub, Int.reduceEq, reduceIte, reduceCtorEq, UInt8.reduceOfNat, stR, hd, hT]
    repeat refine And.intro (by first | omega | assumption | (simp; done) | (simp; omega) | (simp +contextual; done) | (simp_all; done) | (simp_all; omega)) ?_
    rintro ⟨c, z1⟩ ⟨hc, hz1⟩
    try dsimp only at hc hz1
    try dsimp only
    repeat refine And.intro (by first | omega | assumption | (simp; done) | (simp; omega) | (simp +contextual; done) | (simp_all; done) | (simp_all; omega)) ?_
    refine hK _ ?_
    clear hK K
    have hc2 : c.length ≤ 200 := by omega
    refine WA.regionK ty_ok hs fun K hK => ?_
    simp only [go_sem, Nat.reduceAdd, Nat.reduceLT, Nat.reduceLeDiff, Nat.reduceEqDiff, Nat.reduceSub, Nat.reduceMul, Nat.reduceBEq, Nat.reduceBNe, Nat.reducePow, Nat.reduceDiv, Int.reduceLE, Int.reduceLT, Int.reduceToNat, Int.reduceNeg, Int.reduceAdd, Int.reduceSub, Int.reduceEq, reduceIte, reduceCtorEq, UInt8.reduceOfNat, true_and]
    first
    | refine hK _ ?_
    | refine And.intro (by first | omega | (simp; done) | (simp; omega) | (simp +contextual; done) | (simp_all; done) | (simp_all; omega)) (hK _ ?_)
    clear hK K
    refine WA.normT 6 fun K hK => ?_
    simp only [go_sem, Nat.reduceAdd, Nat.reduceLT, Nat.reduceLeDiff, Nat.reduceEqDiff, Nat.reduceSub, Nat.reduceMul, Nat.reduceBEq, Nat.reduceBNe, Nat.reducePow, Nat.reduceDiv, Int.reduceLE, Int.reduceLT, Int.reduceToNat, Int.reduceNeg, Int.reduceAdd, Int.reduceSub, Int.reduceEq, reduceIte, reduceCtorEq, UInt8.reduceOfNat, true_and]
    first
    | refine hK _ ?_
    | refine And.intro (by first | omega | (simp; done) | (simp; omega) | (simp_all; done) | (simp_all; omega)) (hK _ ?_)
    clear hK K
    refine ownC 2112 2 1 (.agg [.sl 2096 5 0 1, .lit (.slice none 0 0)]) (.li 2 []) rfl rfl rfl (x' := .agg [.sl 2096 5 0 1, .sl 2128 2 0 0]) rfl ?_
    refine WA.norm 2096 fun K hK => ?_
    simp only [go_sem, Nat.reduceAdd, Nat.reduceLT, Nat.reduceLeDiff, Nat.reduceEqDiff, Nat.reduceSub, Nat.reduceMul, Nat.reduceBEq, Nat.reduceBNe, Nat.reducePow, Nat.reduceDiv, Int.reduceLE, Int.reduceLT, Int.reduceToNat, Int.reduceNeg, Int.reduceAdd, Int.reduceSub, Int.reduceEq, reduceIte, reduceCtorEq, UInt8.reduceOfNat, true_and]
    first
    | refine hK _ ?_
    | refine And.intro (by first | omega | (simp; done) | (simp; omega) | (simp_all; done) | (simp_all; omega)) (hK _ ?_)
    clear hK K
    refine WA.norm 2112 fun K hK => ?_
    simp only [go_sem, Nat.reduceAdd, Nat.reduceLT, Nat.reduceLeDiff, Nat.reduceEqDiff, Nat.reduceSub, Nat.reduceMul, Nat.reduceBEq, Nat.reduceBNe, Nat.reducePow, Nat.reduceDiv, Int.reduceLE, Int.reduceLT, Int.reduceToNat, Int.reduceNeg, Int.reduceAdd, Int.reduceSub, Int.reduceEq, reduceIte, reduceCtorEq, UInt8.reduceOfNat, true_and]
    first
    | refine hK _ ?_
    | refine And.intro (by first | omega | (simp; done) | (simp; omega) | (simp_all; done) | (simp_all; omega)) (hK _ ?_)
    clear hK K
    obtain ⟨m, hm⟩ : ∃ m, sz % 50 = m := ⟨_, rfl⟩
    have hm2 : 0 ≤ m ∧ m < 50 := by omega
    refine WA.regionK ty_ok hs fun K hK => ?_
    simp only [go_sem, Nat.reduceAdd, Nat.reduceLT, Nat.reduceLeDiff, Nat.reduceEqDiff, Nat.reduceSub, Nat.reduceMul, Nat.reduceBEq, Nat.reduceBNe, Nat.reducePow, Nat.reduceDiv, Int.reduceLE, Int.reduceLT, Int.reduceToNat, Int.reduceNeg, Int.reduceAdd, Int.reduceSub, Int.reduceEq, reduceIte, reduceCtorEq, UInt8.reduceOfNat, sgR, hsz, hm]
    first
    | refine hK _ ?_
    | refine And.intro (by first | omega | (simp; done) | (simp; omega) | (simp +contextual; done) | (simp_all; done) | (simp_all; omega)) (hK _ ?_)
    clear hK K
    obtain ⟨n, hn⟩ : ∃ n, 1 + m = n := ⟨_, rfl⟩
    rw [hn]
    have hn1 : 1 ≤ n := by omega
    have hn2 : n ≤ 50 := by omega
    obtain ⟨s1, s2, s3⟩ := sh1 hc2
    refine WA.regionK ty_ok hs fun K hK => ?_
    simp only [go_sem, Nat.reduceAdd, Nat.reduceLT, Nat.reduceLeDiff, Nat.reduceEqDiff, Nat.reduceSub, Nat.reduceMul, Nat.reduceBEq, Nat.reduceBNe, Nat.reducePow, Nat.reduceDiv, Int.reduceLE, Int.reduceLT, Int.reduceToNat, Int.reduceNeg, Int.reduceAdd, Int.reduceSub, Int.reduceEq, reduceIte, reduceCtorEq, UInt8.reduceOfNat, sgR, u1, f1, s1, s2, s3]
    first
    | refine hK _ ?_
    | refine And.intro (by first | omega | (simp; done) | (simp; omega) | (simp +contextual; done) | (simp_all; done) | (simp_all; omega)) (hK _ ?_)
    clear hK K
    refine WA.seq ?_
    refine WA.regionK ty_ok hs fun K hK => ?_
    simp only [go_sem, Nat.reduceAdd, Nat.reduceLT, Nat.reduceLeDiff, Nat.reduceEqDiff, Nat.reduceSub, Nat.reduceMul, Nat.reduceBEq, Nat.reduceBNe, Nat.reducePow, Nat.reduceDiv, Int.reduceLE, Int.reduceLT, Int.reduceToNat, Int.reduceNeg, Int.reduceAdd, Int.reduceSub, Int.reduceEq, reduceIte, reduceCtorEq, UInt8.reduceOfNat, sgR]
    first
    | refine hK _ ?_
    | refine And.intro (by first | omega | (simp; done) | (simp; omega) | (simp +contextual; done) | (simp_all; done) | (simp_all; omega)) (hK _ ?_)
    clear hK K
    refine WA.cond rfl (fun h => by cases h) (fun h => ?_)
    with_reducible refine WA.skipN ?_
    repeat first | with_reducible refine WN.t ?_ | with_reducible refine WN.b ?_
    refine WA.regionK ty_ok hs fun K hK => ?_
    simp only [go_sem, Nat.reduceAdd, Nat.reduceLT, Nat.reduceLeDiff, Nat.reduceEqDiff, Nat.reduceSub, Nat.reduceMul, Nat.reduceBEq, Nat.reduceBNe, Nat.reducePow, Nat.reduceDiv, Int.reduceLE, Int.reduceLT, Int.reduceToNat, Int.reduceNeg, Int.reduceAdd, Int.reduceSub, Int.reduceEq, reduceIte, reduceCtorEq, UInt8.reduceOfNat, true_and]
    first
    | refine hK _ ?_
    | refine And.intro (by first | omega | (simp; done) | (simp; omega) | (simp +contextual; done) | (simp_all; done) | (simp_all; omega)) (hK _ ?_)
    clear hK K
    refine WA.own0 11 (.by_ []) rfl rfl ?_
    refine WA.seq ?_
    refine WA.regionK ty_ok hs fun K hK => ?_
    simp only [go_sem, Nat.reduceAdd, Nat.reduceLT, Nat.reduceLeDiff, Nat.reduceEqDiff, Nat.reduceSub, Nat.reduceMul, Nat.reduceBEq, Nat.reduceBNe, Nat.reducePow, Nat.reduceDiv, Int.reduceLE, Int.reduceLT, Int.reduceToNat, Int.reduceNeg, Int.reduceAdd, Int.reduceSub, Int.reduceEq, reduceIte, reduceCtorEq, UInt8.reduceOfNat, true_and]
    first
    | refine hK _ ?_
    | refine And.intro (by first | omega | (simp; done) | (simp; omega) | (simp +contextual; done) | (simp_all; done) | (simp_all; omega)) (hK _ ?_)
    clear hK K
    refine WA.block ?_
    refine WA.loopW hX (fun k => if k = 3000 then 2296 else k) ((fun (j : Nat × Nat) => ⟨[(6, .by_ c), (7, .ptr 2112 0 0), (8, .lit (.int .i64 n)), (9, .ptr 2216 0 0), (11, .sl 3000 1 0 j.2), (12, .lit (.int .i64 (j.1 : Nat)))], [(3000, ⟨.by_ (c.take j.2), 0, false⟩), (2216, ⟨.li 2 [.agg [.lit (.int .i64 (-1)), .lit (.int .i64 0)]], 0, false⟩), (2112, ⟨.li 2 [.agg [.li 5 [.agg [.lit (.int .i64 3), .lit (.int .i64 2), .by_ c, .lit (.int .i64 0), .lit (.int .i64 0)]], .li 2 []]], 0, false⟩)], 4000, 77⟩ : _ → St)) (fun j => 201 - j.1) (fun j => j.1 ≤ j.2 ∧ (j.2 < c.length ∨ (j.1 = 0 ∧ j.2 = 0)) ∧ j.2 ≤ c.length) (i0 := (0, 0)) (⟨by omega, .inr ⟨rfl, rfl⟩, by omega⟩) (by simp only [go_sem, Int.natCast_add, Nat.reduceAdd, Nat.reduceLT, Nat.reduceLeDiff, Nat.reduceEqDiff, Nat.reduceSub, Nat.reduceMul, Nat.reduceBEq, Nat.reduceBNe, Nat.reducePow, Nat.reduceDiv, Int.reduceLE, Int.reduceLT, Int.reduceToNat, Int.reduceNeg, Int.reduceAdd, Int.reduceSub, Int.reduceEq, reduceIte, reduceCtorEq, UInt8.reduceOfNat, List.take_zero] <;> (try and_intros) <;> (try omega)) fun ⟨i, o⟩ hi => ?_
    simp only at hi
    obtain ⟨i1, i2, i3⟩ := hi
    refine WA.seq ?_
    refine WA.regionK ty_ok hs fun K hK => ?_
    simp only [go_sem, Nat.reduceAdd, Nat.reduceLT, Nat.reduceLeDiff, Nat.reduceEqDiff, Nat.reduceSub, Nat.reduceMul, Nat.reduceBEq, Nat.reduceBNe, Nat.reducePow, Nat.reduceDiv, Int.reduceLE, Int.reduceLT, Int.reduceToNat, Int.reduceNeg, Int.reduceAdd, Int.reduceSub, Int.reduceEq, reduceIte, reduceCtorEq, UInt8.reduceOfNat, true_and]
    first
    | refine hK _ ?_
    | refine And.intro (by first | omega | (simp; done) | (simp; omega) | (simp +contextual; done) | (simp_all; done) | (simp_all; omega)) (hK _ ?_)
    clear hK K
    refine WA.cond rfl (fun h => ?_) (fun h => ?_)
    ·
      with_reducible refine WA.skipN ?_
      repeat first | with_reducible refine WN.t ?_ | with_reducible refine WN.b ?_
      clear h
      have r1 := rd1 (o := (o : Nat)) (n := n) hc2 (by omega) (by omega) hn1 hn2
      have r2 := rb1 (o := (o : Nat)) (n := n) hc2 (by omega) (by omega) hn1 hn2
      have r3 := rn1 (o := (o : Nat)) (n := n) hc2 (by omega) (by omega) hn1 hn2
      rw [Int.toNat_natCast] at r2
      have ht1 : (c.take o).length = o := by rw [List.length_take]; omega
      refine WA.seq ?_
      refine WA.block ?_
      refine WA.regionK ty_ok hs fun K hK => ?_
      simp only [go_sem, Nat.reduceAdd, Nat.reduceLT, Nat.reduceLeDiff, Nat.reduceEqDiff, Nat.reduceSub, Nat.reduceMul, Nat.reduceBEq, Nat.reduceBNe, Nat.reducePow, Nat.reduceDiv, Int.reduceLE, Int.reduceLT, Int.reduceToNat, Int.reduceNeg, Int.reduceAdd, Int.reduceSub, Int.reduceEq, reduceIte, reduceCtorEq, UInt8.reduceOfNat, sgR, u1, f1, r1, r2, r3, ht1]
      first
      | refine hK _ ?_
      | refine And.intro (by first | omega | (simp; done) | (simp; omega) | (simp +contextual; done) | (simp_all; done) | (simp_all; omega)) (hK _ ?_)
      clear hK K
      refine WA.seq ?_
      have z0 : ((0 : Int) != 0) = false := rfl
      have ta : c.take o ++ (c.drop o).take n.toNat = c.take (o + n.toNat) := (List.take_add ..).symm
      by_cases he : n ≥ (c.length : Nat) - (o : Int)
      ·
        have e1 : (n ≥ (c.length : Nat) - (o : Int)) = True := eq_true he
        have tb : c.take (o + n.toNat) = c := List.take_of_length_le (by omega)
        have ni : (if n.toNat ≤ c.length - o then n.toNat else c.length - o) = c.length - o := by split <;> omega
        have oi : o + (c.length - o) = c.length := by omega
        refine WA.regionK ty_ok hs fun K hK => ?_
        simp only [go_sem, Nat.reduceAdd, Nat.reduceLT, Nat.reduceLeDiff, Nat.reduceEqDiff, Nat.reduceSub, Nat.reduceMul, Nat.reduceBEq, Nat.reduceBNe, Nat.reducePow, Nat.reduceDiv, Int.reduceLE, Int.reduceLT, Int.reduceToNat, Int.reduceNeg, Int.reduceAdd, Int.reduceSub, Int.reduceEq, reduceIte, reduceCtorEq, UInt8.reduceOfNat, z0, e1, ni]
        first
        | refine hK _ ?_
        | refine And.intro (by first | omega | (simp; done) | (simp; omega) | (simp +contextual; done) | (simp_all; done) | (simp_all; omega)) (hK _ ?_)
        clear hK K
        refine WA.cond rfl (fun h => by simp at h) (fun h => ?_)
        with_reducible refine WA.skipN ?_
        repeat first | with_reducible refine WN.t ?_ | with_reducible refine WN.b ?_
        refine WA.regionK ty_ok hs fun K hK => ?_
        simp only [go_sem, Nat.reduceAdd, Nat.reduceLT, Nat.reduceLeDiff, Nat.reduceEqDiff, Nat.reduceSub, Nat.reduceMul, Nat.reduceBEq, Nat.reduceBNe, Nat.reducePow, Nat.reduceDiv, Int.reduceLE, Int.reduceLT, Int.reduceToNat, Int.reduceNeg, Int.reduceAdd, Int.reduceSub, Int.reduceEq, reduceIte, reduceCtorEq, UInt8.reduceOfNat, ht1, ta, tb, ni, oi]
        first
        | refine hK _ ?_
        | refine And.intro (by first | omega | (simp; done) | (simp; omega) | (simp +contextual; done) | (simp_all; done) | (simp_all; omega)) (hK _ ?_)
        clear hK K
        refine WA.regionK ty_ok hs fun K hK => ?_
        simp only [go_sem, Nat.reduceAdd, Nat.reduceLT, Nat.reduceLeDiff, Nat.reduceEqDiff, Nat.reduceSub, Nat.reduceMul, Nat.reduceBEq, Nat.reduceBNe, Nat.reducePow, Nat.reduceDiv, Int.reduceLE, Int.reduceLT, Int.reduceToNat, Int.reduceNeg, Int.reduceAdd, Int.reduceSub, Int.reduceEq, reduceIte, reduceCtorEq, UInt8.reduceOfNat, true_and]
        first
        | refine hK _ ?_
        | refine And.intro (by first | omega | (simp; done) | (simp; omega) | (simp +contextual; done) | (simp_all; done) | (simp_all; omega)) (hK _ ?_)
        clear hK K
        refine WA.cond rfl (fun h => ?_) (fun h => by simp at h)
        refine WA.regionK ty_ok hs fun K hK => ?_
        simp only [go_sem, Nat.reduceAdd, Nat.reduceLT, Nat.reduceLeDiff, Nat.reduceEqDiff, Nat.reduceSub, Nat.reduceMul, Nat.reduceBEq, Nat.reduceBNe, Nat.reducePow, Nat.reduceDiv, Int.reduceLE, Int.reduceLT, Int.reduceToNat, Int.reduceNeg, Int.reduceAdd, Int.reduceSub, Int.reduceEq, reduceIte, reduceCtorEq, UInt8.reduceOfNat, sgR, ta, tb, ni, oi, List.take_length, Nat.le_refl]
        first
        | refine hK _ ?_
        | refine And.intro (by first | omega | (simp; done) | (simp; omega) | (simp +contextual; done) | (simp_all; done) | (simp_all; omega)) (hK _ ?_)
        clear hK K
        refine WA.retE ty_ok (xs := [.lit (.bool true)]) (ls' := []) (rv := [.tmp 4]) rfl hX (by decide) (fun _ => rfl) (fun _ _ h => h) ?_
        simp only [go_sem, Nat.reduceAdd, Nat.reduceLT, Nat.reduceLeDiff, Nat.reduceEqDiff, Nat.reduceSub, Nat.reduceMul, Nat.reduceBEq, Nat.reduceBNe, Nat.reducePow, Nat.reduceDiv, Int.reduceLE, Int.reduceLT, Int.reduceToNat, Int.reduceNeg, Int.reduceAdd, Int.reduceSub, Int.reduceEq, reduceIte, reduceCtorEq, UInt8.reduceOfNat, sbT]
      ·
        have e1 : (n ≥ (c.length : Nat) - (o : Int)) = False := eq_false he
        have nn : (n.toNat ≤ c.length - o) = True := eq_true (by omega)
        have tn : ((n.toNat : Nat) : Int) = n := by omega
        refine WA.regionK ty_ok hs fun K hK => ?_
        simp only [go_sem, Nat.reduceAdd, Nat.reduceLT, Nat.reduceLeDiff, Nat.reduceEqDiff, Nat.reduceSub, Nat.reduceMul, Nat.reduceBEq, Nat.reduceBNe, Nat.reducePow, Nat.reduceDiv, Int.reduceLE, Int.reduceLT, Int.reduceToNat, Int.reduceNeg, Int.reduceAdd, Int.reduceSub, Int.reduceEq, reduceIte, reduceCtorEq, UInt8.reduceOfNat, z0, e1, nn, tn]
        first
        | refine hK _ ?_
        | refine And.intro (by first | omega | (simp; done) | (simp; omega) | (simp +contextual; done) | (simp_all; done) | (simp_all; omega)) (hK _ ?_)
        clear hK K
        refine WA.cond rfl (fun h => by simp at h) (fun h => ?_)
        with_reducible refine WA.skipN ?_
        repeat first | with_reducible refine WN.t ?_ | with_reducible refine WN.b ?_
        refine WA.regionK ty_ok hs fun K hK => ?_
        simp only [go_sem, Nat.reduceAdd, Nat.reduceLT, Nat.reduceLeDiff, Nat.reduceEqDiff, Nat.reduceSub, Nat.reduceMul, Nat.reduceBEq, Nat.reduceBNe, Nat.reducePow, Nat.reduceDiv, Int.reduceLE, Int.reduceLT, Int.reduceToNat, Int.reduceNeg, Int.reduceAdd, Int.reduceSub, Int.reduceEq, reduceIte, reduceCtorEq, UInt8.reduceOfNat, ht1, ta, nn]
        first
        | refine hK _ ?_
        | refine And.intro (by first | omega | (simp; done) | (simp; omega) | (simp +contextual; done) | (simp_all; done) | (simp_all; omega)) (hK _ ?_)
        clear hK K
        refine WA.regionK ty_ok hs fun K hK => ?_
        simp only [go_sem, Nat.reduceAdd, Nat.reduceLT, Nat.reduceLeDiff, Nat.reduceEqDiff, Nat.reduceSub, Nat.reduceMul, Nat.reduceBEq, Nat.reduceBNe, Nat.reducePow, Nat.reduceDiv, Int.reduceLE, Int.reduceLT, Int.reduceToNat, Int.reduceNeg, Int.reduceAdd, Int.reduceSub, Int.reduceEq, reduceIte, reduceCtorEq, UInt8.reduceOfNat, true_and]
        first
        | refine hK _ ?_
        | refine And.intro (by first | omega | (simp; done) | (simp; omega) | (simp +contextual; done) | (simp_all; done) | (simp_all; omega)) (hK _ ?_)
        clear hK K
        refine WA.cond rfl (fun h => by simp at h) (fun h => ?_)
        with_reducible refine WA.skipN ?_
        repeat first | with_reducible refine WN.t ?_ | with_reducible refine WN.b ?_
        refine WA.regionE ty_ok hs fun K hK => ?_
        simp only [go_sem, Nat.reduceAdd, Nat.reduceLT, Nat.reduceLeDiff, Nat.reduceEqDiff, Nat.reduceSub, Nat.reduceMul, Nat.reduceBEq, Nat.reduceBNe, Nat.reducePow, Nat.reduceDiv, Int.reduceLE, Int.reduceLT, Int.reduceToNat, Int.reduceNeg, Int.reduceAdd, Int.reduceSub, Int.reduceEq, reduceIte, reduceCtorEq, UInt8.reduceOfNat, true_and]
        repeat refine And.intro (by first | omega | assumption | (simp; done) | (simp; omega) | (simp +contextual; done) | (simp_all; done) | (simp_all; omega)) ?_
        refine hK _ (roundE hX (fun k => if k = 3000 then 4240 else k) (j := (i + 1, o + n.toNat)) (⟨by show i + 1 ≤ o + n.toNat; omega, .inl (by show o + n.toNat < c.length; omega), by show o + n.toNat ≤ c.length; omega⟩) (by first | omega | (dsimp only; omega) | (simp; omega)) (by simp only [go_sem, Int.natCast_add, Nat.reduceAdd, Nat.reduceLT, Nat.reduceLeDiff, Nat.reduceEqDiff, Nat.reduceSub, Nat.reduceMul, Nat.reduceBEq, Nat.reduceBNe, Nat.reducePow, Nat.reduceDiv, Int.reduceLE, Int.reduceLT, Int.reduceToNat, Int.reduceNeg, Int.reduceAdd, Int.reduceSub, Int.reduceEq, reduceIte, reduceCtorEq, UInt8.reduceOfNat, true_and] <;> (try and_intros) <;> (try omega)))
    ·
      exfalso
      have := of_decide_eq_false h
      omega
end Go.Proofs.Ytnjmedihheblaaa
