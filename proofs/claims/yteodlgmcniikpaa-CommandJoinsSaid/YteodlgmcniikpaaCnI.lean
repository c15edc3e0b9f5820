import Derived.Test.YteodlgmcniikpaaCnH
namespace Go.Proofs.Yteodlgmcniikpaa
open Go.RowKit Go.TravelBase Go.TravelAbs
set_option linter.unusedVariables false
set_option linter.unusedSimpArgs false

















/-! ### The laws CommandMade and CommandReturns -/
theorem encV_len (c : Cm) : (encV c).length ≤ 4200 := by
  unfold encV
  split
  · rename_i hv
    obtain ⟨-, -, h, -⟩ := hv
    unfold encB
    have l3 : ∀ n, (bn (lngC c) n).length ≤ 2 := fun n => by cases lngC c <;> simp [bn, b1, b2]
    have h1 := l3 c.data.length
    have h2 := l3 c.exp
    have g1 : (hdC c).length = 4 := rfl
    have g2 : (if lngC c = true then [(0 : UInt8)] else []).length ≤ 1 := by split <;> simp
    have g3 : (if c.data = [] then [] else bn (lngC c) c.data.length ++ c.data).length ≤ 2 + 4096 := by
      split
      · simp
      · rw [List.length_append]; omega
    have g4 : (if c.exp = -1 then [] else bn (lngC c) c.exp).length ≤ 2 := by
      split
      · simp
      · exact h2
    rw [List.length_append, List.length_append, List.length_append]
    omega
  · simp
def sgL : Sg := fun f args ls =>
  match f, args, ls with
  | 18, [.li 1 xs], [] => some (.lit (.bool (decide ((xs.length : Int) ≤ 400))), [], True)
  | 19, [.li 1 xs], [] => some (.fr (.opt true (.li 2 [.agg [.li 1 xs, .lit (.int .i64 0)]])), [], Tr (.li 1 xs) = True)
  | 13, [], [] => some (.lit (.bool true), [], True)
  | 21, [.ptr 0 0 0, .lit (.int .i64 n)], [.li 2 [.agg [L, .lit (.int .i64 z)]]] => some (.lit (.bool (nxI L z n == n - 1)), [.li 2 [.agg [L, .lit (.int .i64 (nxZ L z))]]], DcOK L z ∧ 1 ≤ n ∧ n ≤ 4611686018427387904)
  | 10, [.agg [.lit (.int .i64 a), .lit (.int .i64 b), .lit (.int .i64 c), .lit (.int .i64 d), .by_ e, .lit (.int .i64 x)]], [] => some (.tup [.by_ (encV ⟨a, b, c, d, e, x⟩), .lit (.int .i64 (encE ⟨a, b, c, d, e, x⟩))], [], True)
  | 3, [.agg [.lit (.int .i64 a), .lit (.int .i64 b), .lit (.int .i64 c), .lit (.int .i64 d), .by_ e, .lit (.int .i64 x)], .by_ bs], [] => some (.lit (.bool true), [], bs.length ≤ 9223372036854775807)
  | _, _, _ => none
theorem sgL_ok : SgOK Try.prog sgL := by
  intro f args ls r ls' vc h hvc
  unfold sgL at h
  split at h <;> first | (simp only [Option.some.injEq, Prod.mk.injEq] at h; obtain ⟨rfl, rfl, rfl⟩ := h) | cases h
  · exact ⟨(fnOK Try.func18 (by decide) rfl), light_s _⟩
  · exact ⟨(fnOK Try.func19 (by decide) rfl), roll_s _ hvc⟩
  · exact ⟨(fnOK Try.func13 (by decide) rfl), awake_s⟩
  · exact ⟨(fnOK Try.func21 (by decide) rfl), one_s _ _ _ hvc.1 hvc.2.1 hvc.2.2⟩
  · rename_i a b c d e x
    exact ⟨(fnOK Try.func10 (by decide) rfl), rencode_s ⟨a, b, c, d, e, x⟩⟩
  · rename_i a b c d e x bs
    exact ⟨(fnOK Try.func3 (by decide) rfl), exact_s ⟨a, b, c, d, e, x⟩ bs hvc⟩
def stC : Sg2 := fun f args ls =>
  match f, args, ls with
  | 20, [.ptr 0 0 0], [.li 2 [.agg [L, .lit (.int .i64 z)]]] => some ⟨Cm × Int, fun i => MadC i.1 ∧ DcOK L i.2, fun i => .agg [.lit (.int .i64 i.1.cls), .lit (.int .i64 i.1.ins), .lit (.int .i64 i.1.p1), .lit (.int .i64 i.1.p2), .by_ i.1.data, .lit (.int .i64 i.1.exp)], fun i => [.li 2 [.agg [L, .lit (.int .i64 i.2)]]], DcOK L z⟩
  | 22, [.ptr 0 0 0, .by_ b], [.li 2 [.agg [L, .lit (.int .i64 z)]]] => some ⟨List UInt8 × Int, fun i => i.1.length ≤ b.length + 1 ∧ DcOK L i.2, fun i => .by_ i.1, fun i => [.li 2 [.agg [L, .lit (.int .i64 i.2)]]], DcOK L z ∧ b.length ≤ 1000000⟩
  | 23, [.ptr 0 0 0, .agg [.lit (.int .i64 a), .lit (.int .i64 b), .lit (.int .i64 c), .lit (.int .i64 d), .by_ e, .lit (.int .i64 x)]], [.li 2 [.agg [L, .lit (.int .i64 z)]]] => some ⟨Cm × Int, fun i => (i.1.data = e ∨ (i.1.data.length : Int) ≤ 4200) ∧ DcOK L i.2, fun i => .agg [.lit (.int .i64 i.1.cls), .lit (.int .i64 i.1.ins), .lit (.int .i64 i.1.p1), .lit (.int .i64 i.1.p2), .by_ i.1.data, .lit (.int .i64 i.1.exp)], fun i => [.li 2 [.agg [L, .lit (.int .i64 i.2)]]], DcOK L z⟩
  | _, _, _ => none
theorem stC_ok : Sg2OK Try.prog stC := by
  intro f args ls R h hvc
  unfold stC at h
  split at h <;> first | (simp only [Option.some.injEq] at h; subst h) | cases h
  · exact ⟨(fnOK Try.func20 (by decide) rfl), command_e _ _ hvc⟩
  · exact ⟨(fnOK Try.func22 (by decide) rfl), spoil_e _ _ hvc.1 _ hvc.2⟩
  · rename_i a b c d e x L z
    exact ⟨(fnOK Try.func23 (by decide) rfl), oddcommand_e _ _ hvc ⟨a, b, c, d, e, x⟩⟩
theorem made_s (l : List Int) (hl : ∀ y ∈ l, -9223372036854775808 ≤ y ∧ y ≤ 9223372036854775807) : FnS Try.prog 4 [.li 1 (l.map iA)] [] (.lit (.bool true)) [] := by
  have hs := sgL_ok
  have ht := stC_ok
  have hT := Tr_ia l
  refine FnS.of Try.func4 rfl (N := 33) rfl (by simp) (by simp) fun X hX => ?_
  simp only [tmArgs, lentH, Nat.reduceAdd]
  refine WA.regionK ty_ok hs fun K hK => ?_
  simp only [go_sem, Nat.reduceAdd, Nat.reduceLT, Nat.reduceLeDiff, Nat.reduceEqDiff, Nat.reduceSub, Nat.reduceMul, Nat.reduceBEq, Nat.reduceBNe, Nat.reducePow, Nat.reduceDiv, Int.reduceLE, Int.reduceLT, Int.reduceToNat, Int.reduceNeg, Int.reduceAdd, Int.reduceSub, Int.reduceEq, reduceIte, reduceCtorEq, UInt8.reduceOfNat, true_and]
  first
  | refine hK _ ?_
  | refine And.intro (by first | omega | (simp; done) | (simp; omega) | (simp +contextual; done) | (simp_all; done) | (simp_all; omega)) (hK _ ?_)
  clear hK K
  refine WA.seq ?_
  refine WA.regionK ty_ok hs fun K hK => ?_
  simp only [go_sem, Nat.reduceAdd, Nat.reduceLT, Nat.reduceLeDiff, Nat.reduceEqDiff, Nat.reduceSub, Nat.reduceMul, Nat.reduceBEq, Nat.reduceBNe, Nat.reducePow, Nat.reduceDiv, Int.reduceLE, Int.reduceLT, Int.reduceToNat, Int.reduceNeg, Int.reduceAdd, Int.reduceSub, Int.reduceEq, reduceIte, reduceCtorEq, UInt8.reduceOfNat, sgL]
  first
  | refine hK _ ?_
  | refine And.intro (by first | omega | (simp; done) | (simp; omega) | (simp +contextual; done) | (simp_all; done) | (simp_all; omega)) (hK _ ?_)
  clear hK K
  refine WA.cond rfl (fun h => ?_) (fun h => ?_)
  ·
    refine WA.regionK ty_ok hs fun K hK => ?_
    simp only [go_sem, Nat.reduceAdd, Nat.reduceLT, Nat.reduceLeDiff, Nat.reduceEqDiff, Nat.reduceSub, Nat.reduceMul, Nat.reduceBEq, Nat.reduceBNe, Nat.reducePow, Nat.reduceDiv, Int.reduceLE, Int.reduceLT, Int.reduceToNat, Int.reduceNeg, Int.reduceAdd, Int.reduceSub, Int.reduceEq, reduceIte, reduceCtorEq, UInt8.reduceOfNat, sgL]
    first
    | refine hK _ ?_
    | refine And.intro (by first | omega | (simp; done) | (simp; omega) | (simp +contextual; done) | (simp_all; done) | (simp_all; omega)) (hK _ ?_)
    clear hK K
    refine WA.retE ty_ok (xs := [.lit (.bool true)]) (ls' := []) (rv := [.tmp 2]) rfl hX (by decide) (fun _ => rfl) (fun _ _ h => h) ?_
    simp only [go_sem, Nat.reduceAdd, Nat.reduceLT, Nat.reduceLeDiff, Nat.reduceEqDiff, Nat.reduceSub, Nat.reduceMul, Nat.reduceBEq, Nat.reduceBNe, Nat.reducePow, Nat.reduceDiv, Int.reduceLE, Int.reduceLT, Int.reduceToNat, Int.reduceNeg, Int.reduceAdd, Int.reduceSub, Int.reduceEq, reduceIte, reduceCtorEq, UInt8.reduceOfNat, sbT]
  ·
    with_reducible refine WA.skipN ?_
    repeat first | with_reducible refine WN.t ?_ | with_reducible refine WN.b ?_
    have h6 : l.length ≤ 400 := by simp at h; omega
    have hd := dc_roll hl h6
    clear h
    refine WA.regionK ty_ok hs fun K hK => ?_
    simp only [go_sem, Nat.reduceAdd, Nat.reduceLT, Nat.reduceLeDiff, Nat.reduceEqDiff, Nat.reduceSub, Nat.reduceMul, Nat.reduceBEq, Nat.reduceBNe, Nat.reducePow, Nat.reduceDiv, Int.reduceLE, Int.reduceLT, Int.reduceToNat, Int.reduceNeg, Int.reduceAdd, Int.reduceSub, Int.reduceEq, reduceIte, reduceCtorEq, UInt8.reduceOfNat, sgL, hT]
    first
    | refine hK _ ?_
    | refine And.intro (by first | omega | (simp; done) | (simp; omega) | (simp +contextual; done) | (simp_all; done) | (simp_all; omega)) (hK _ ?_)
    clear hK K
    obtain ⟨L, hL⟩ : ∃ L, AV.li 1 (l.map iA) = L := ⟨_, rfl⟩
    rw [hL] at hd hT ⊢
    refine WA.regQ ty_ok hs ht fun K hK => ?_
    simp only [go_sem, Nat.reduceAdd, Nat.reduceLT, Nat.reduceLeDiff, Nat.reduceEqDiff, Nat.reduceSub, Nat.reduceMul, Nat.reduceBEq, Nat.reduceBNe, Nat.reducePow, Nat.reduceDiv, Int.reduceLE, Int.reduceLT, Int.reduceToNat, Int.reduceNeg, Int.reduceAdd, Int.reduceSub, Int.reduceEq, reduceIte, reduceCtorEq, UInt8.reduceOfNat, stC, hd, hT]
    repeat refine And.intro (by first | omega | assumption | (simp; done) | (simp; omega) | (simp +contextual; done) | (simp_all; done) | (simp_all; omega)) ?_
    rintro ⟨c, z1⟩ ⟨hm, hd1⟩
    try dsimp only at hm hd1
    try dsimp only
    repeat refine And.intro (by first | omega | assumption | (simp; done) | (simp; omega) | (simp +contextual; done) | (simp_all; done) | (simp_all; omega)) ?_
    refine hK _ ?_
    clear hK K
    have hC : (⟨c.cls, c.ins, c.p1, c.p2, c.data, c.exp⟩ : Cm) = c := rfl
    refine WA.regionK ty_ok hs fun K hK => ?_
    simp only [go_sem, Nat.reduceAdd, Nat.reduceLT, Nat.reduceLeDiff, Nat.reduceEqDiff, Nat.reduceSub, Nat.reduceMul, Nat.reduceBEq, Nat.reduceBNe, Nat.reducePow, Nat.reduceDiv, Int.reduceLE, Int.reduceLT, Int.reduceToNat, Int.reduceNeg, Int.reduceAdd, Int.reduceSub, Int.reduceEq, reduceIte, reduceCtorEq, UInt8.reduceOfNat, sgL, hC]
    first
    | refine hK _ ?_
    | refine And.intro (by first | omega | (simp; done) | (simp; omega) | (simp +contextual; done) | (simp_all; done) | (simp_all; omega)) (hK _ ?_)
    clear hK K
    obtain ⟨b0, hb0⟩ : ∃ b, encV c = b := ⟨_, rfl⟩
    have hl0 : b0.length ≤ 4200 := by rw [← hb0]; exact encV_len c
    rw [hb0]
    have hd2 := dc_nx hd1
    refine WA.join (fun (i : List UInt8 × Int) => ⟨[(3, .ptr 2040 0 0), (4, .ptr 2072 0 0), (5, .by_ i.1)], [(2072, ⟨.li 6 [.agg [.lit (.int .i64 c.cls), .lit (.int .i64 c.ins), .lit (.int .i64 c.p1), .lit (.int .i64 c.p2), .by_ c.data, .lit (.int .i64 c.exp)]], 0, false⟩), (2040, ⟨.li 2 [.agg [L, .lit (.int .i64 i.2)]], 0, false⟩)], 4000, 33⟩) (fun i => i.1.length ≤ 4201 ∧ DcOK L i.2) ?_ ?_
    ·
      refine WA.regionK ty_ok hs fun K hK => ?_
      simp only [go_sem, Nat.reduceAdd, Nat.reduceLT, Nat.reduceLeDiff, Nat.reduceEqDiff, Nat.reduceSub, Nat.reduceMul, Nat.reduceBEq, Nat.reduceBNe, Nat.reducePow, Nat.reduceDiv, Int.reduceLE, Int.reduceLT, Int.reduceToNat, Int.reduceNeg, Int.reduceAdd, Int.reduceSub, Int.reduceEq, reduceIte, reduceCtorEq, UInt8.reduceOfNat, sgL, hd1, hT]
      first
      | refine hK _ ?_
      | refine And.intro (by first | omega | (simp; done) | (simp; omega) | (simp +contextual; done) | (simp_all; done) | (simp_all; omega)) (hK _ ?_)
      clear hK K
      refine WA.cond rfl (fun h => ?_) (fun h => ?_)
      ·
        refine WA.regQE ty_ok hs ht fun K hK => ?_
        simp only [go_sem, Nat.reduceAdd, Nat.reduceLT, Nat.reduceLeDiff, Nat.reduceEqDiff, Nat.reduceSub, Nat.reduceMul, Nat.reduceBEq, Nat.reduceBNe, Nat.reducePow, Nat.reduceDiv, Int.reduceLE, Int.reduceLT, Int.reduceToNat, Int.reduceNeg, Int.reduceAdd, Int.reduceSub, Int.reduceEq, reduceIte, reduceCtorEq, UInt8.reduceOfNat, stC, hd2, hT]
        repeat refine And.intro (by first | omega | assumption | (simp; done) | (simp; omega) | (simp +contextual; done) | (simp_all; done) | (simp_all; omega)) ?_
        rintro ⟨b1, z2⟩ ⟨hb1, hd3⟩
        try dsimp only at hb1 hd3
        try dsimp only
        repeat refine And.intro (by first | omega | assumption | (simp; done) | (simp; omega) | (simp +contextual; done) | (simp_all; done) | (simp_all; omega)) ?_
        refine hK _ (WN.mk ?_)
        repeat with_reducible refine WN.b ?_
        refine WN.join hX (fun k => k) ((b1, z2)) (⟨by show b1.length ≤ _; omega, hd3⟩) (by simp only [go_sem, Int.natCast_add, Nat.reduceAdd, Nat.reduceLT, Nat.reduceLeDiff, Nat.reduceEqDiff, Nat.reduceSub, Nat.reduceMul, Nat.reduceBEq, Nat.reduceBNe, Nat.reducePow, Nat.reduceDiv, Int.reduceLE, Int.reduceLT, Int.reduceToNat, Int.reduceNeg, Int.reduceAdd, Int.reduceSub, Int.reduceEq, reduceIte, reduceCtorEq, UInt8.reduceOfNat, hT] <;> (try and_intros) <;> (try omega))
      ·
        refine WA.skipN ?_
        repeat with_reducible refine WN.b ?_
        refine WN.join hX (fun k => k) ((b0, nxZ L z1)) (⟨by show b0.length ≤ _; omega, hd2⟩) (by simp only [go_sem, Int.natCast_add, Nat.reduceAdd, Nat.reduceLT, Nat.reduceLeDiff, Nat.reduceEqDiff, Nat.reduceSub, Nat.reduceMul, Nat.reduceBEq, Nat.reduceBNe, Nat.reducePow, Nat.reduceDiv, Int.reduceLE, Int.reduceLT, Int.reduceToNat, Int.reduceNeg, Int.reduceAdd, Int.reduceSub, Int.reduceEq, reduceIte, reduceCtorEq, UInt8.reduceOfNat, hT] <;> (try and_intros) <;> (try omega))
    rintro ⟨b, z2⟩ ⟨hb, hd3⟩
    simp only at hb hd3
    have hd4 := dc_nx hd3
    have hb9 : b.length ≤ 9223372036854775807 := by omega
    refine WA.seq ?_
    refine WA.regionK ty_ok hs fun K hK => ?_
    simp only [go_sem, Nat.reduceAdd, Nat.reduceLT, Nat.reduceLeDiff, Nat.reduceEqDiff, Nat.reduceSub, Nat.reduceMul, Nat.reduceBEq, Nat.reduceBNe, Nat.reducePow, Nat.reduceDiv, Int.reduceLE, Int.reduceLT, Int.reduceToNat, Int.reduceNeg, Int.reduceAdd, Int.reduceSub, Int.reduceEq, reduceIte, reduceCtorEq, UInt8.reduceOfNat, sgL, hd3, hT]
    first
    | refine hK _ ?_
    | refine And.intro (by first | omega | (simp; done) | (simp; omega) | (simp +contextual; done) | (simp_all; done) | (simp_all; omega)) (hK _ ?_)
    clear hK K
    refine WA.cond rfl (fun h => ?_) (fun h => ?_)
    ·
      refine WA.regQE ty_ok hs ht fun K hK => ?_
      simp only [go_sem, Nat.reduceAdd, Nat.reduceLT, Nat.reduceLeDiff, Nat.reduceEqDiff, Nat.reduceSub, Nat.reduceMul, Nat.reduceBEq, Nat.reduceBNe, Nat.reducePow, Nat.reduceDiv, Int.reduceLE, Int.reduceLT, Int.reduceToNat, Int.reduceNeg, Int.reduceAdd, Int.reduceSub, Int.reduceEq, reduceIte, reduceCtorEq, UInt8.reduceOfNat, stC, hd4, hT]
      repeat refine And.intro (by first | omega | assumption | (simp; done) | (simp; omega) | (simp +contextual; done) | (simp_all; done) | (simp_all; omega)) ?_
      rintro ⟨c2, z3⟩ ⟨hc2, hd5⟩
      try dsimp only at hc2 hd5
      try dsimp only
      repeat refine And.intro (by first | omega | assumption | (simp; done) | (simp; omega) | (simp +contextual; done) | (simp_all; done) | (simp_all; omega)) ?_
      with_reducible refine hK _ (WN.mk ?_)
      clear hK K
      repeat first | with_reducible refine WN.t ?_ | with_reducible refine WN.b ?_
      refine WA.regionK ty_ok hs fun K hK => ?_
      simp only [go_sem, Nat.reduceAdd, Nat.reduceLT, Nat.reduceLeDiff, Nat.reduceEqDiff, Nat.reduceSub, Nat.reduceMul, Nat.reduceBEq, Nat.reduceBNe, Nat.reducePow, Nat.reduceDiv, Int.reduceLE, Int.reduceLT, Int.reduceToNat, Int.reduceNeg, Int.reduceAdd, Int.reduceSub, Int.reduceEq, reduceIte, reduceCtorEq, UInt8.reduceOfNat, sgL, hb9]
      first
      | refine hK _ ?_
      | refine And.intro (by first | omega | (simp; done) | (simp; omega) | (simp +contextual; done) | (simp_all; done) | (simp_all; omega)) (hK _ ?_)
      clear hK K
      refine WA.retE ty_ok (xs := [.lit (.bool true)]) (ls' := []) (rv := [.tmp 2]) rfl hX (by decide) (fun _ => rfl) (fun _ _ h => h) ?_
      simp only [go_sem, Nat.reduceAdd, Nat.reduceLT, Nat.reduceLeDiff, Nat.reduceEqDiff, Nat.reduceSub, Nat.reduceMul, Nat.reduceBEq, Nat.reduceBNe, Nat.reducePow, Nat.reduceDiv, Int.reduceLE, Int.reduceLT, Int.reduceToNat, Int.reduceNeg, Int.reduceAdd, Int.reduceSub, Int.reduceEq, reduceIte, reduceCtorEq, UInt8.reduceOfNat, sbT]
    ·
      with_reducible refine WA.skipN ?_
      repeat first | with_reducible refine WN.t ?_ | with_reducible refine WN.b ?_
      refine WA.regionK ty_ok hs fun K hK => ?_
      simp only [go_sem, Nat.reduceAdd, Nat.reduceLT, Nat.reduceLeDiff, Nat.reduceEqDiff, Nat.reduceSub, Nat.reduceMul, Nat.reduceBEq, Nat.reduceBNe, Nat.reducePow, Nat.reduceDiv, Int.reduceLE, Int.reduceLT, Int.reduceToNat, Int.reduceNeg, Int.reduceAdd, Int.reduceSub, Int.reduceEq, reduceIte, reduceCtorEq, UInt8.reduceOfNat, sgL, hb9]
      first
      | refine hK _ ?_
      | refine And.intro (by first | omega | (simp; done) | (simp; omega) | (simp +contextual; done) | (simp_all; done) | (simp_all; omega)) (hK _ ?_)
      clear hK K
      refine WA.retE ty_ok (xs := [.lit (.bool true)]) (ls' := []) (rv := [.tmp 2]) rfl hX (by decide) (fun _ => rfl) (fun _ _ h => h) ?_
      simp only [go_sem, Nat.reduceAdd, Nat.reduceLT, Nat.reduceLeDiff, Nat.reduceEqDiff, Nat.reduceSub, Nat.reduceMul, Nat.reduceBEq, Nat.reduceBNe, Nat.reducePow, Nat.reduceDiv, Int.reduceLE, Int.reduceLT, Int.reduceToNat, Int.reduceNeg, Int.reduceAdd, Int.reduceSub, Int.reduceEq, reduceIte, reduceCtorEq, UInt8.reduceOfNat, sbT]
theorem made_t (l : List Int) (hl : ∀ y ∈ l, -9223372036854775808 ≤ y ∧ y ≤ 9223372036854775807) : FnS Try.prog 4 [.li 1 (l.map iA)] [] (.lit (.bool true)) [] := made_s l hl
end Go.Proofs.Yteodlgmcniikpaa
