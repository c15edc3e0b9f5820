import Derived.Test.YtjhiagelgleomaaMemQ
import Derived.Test.YtjhiagelgleomaaMemR
namespace Go.Proofs.Ytjhiagelgleomaa
open Go.RowKit Go.TravelBase Go.TravelAbs
set_option linter.unusedVariables false
set_option linter.unusedSimpArgs false











/-! ### MemoryMade and MemoryKeeps -/
def sgL : Sg := fun f args ls =>
  match f, args, ls with
  | 18, [.li 1 xs], [] => some (.lit (.bool (decide ((xs.length : Int) ≤ 400))), [], True)
  | 19, [.li 1 xs], [] => some (.fr (.opt true (.li 2 [.agg [.li 1 xs, .lit (.int .i64 0)]])), [], Tr (.li 1 xs) = True)
  | 28, [.lit (.int .i64 x), .lit (.int .i64 n)], [] => some (.lit (.int .i64 (x % n)), [], (1 ≤ n ∧ n ≤ 4611686018427387904) ∧ -9223372036854775808 ≤ x ∧ x ≤ 9223372036854775807)
  | 14, [], [] => some (.lit (.bool true), [], True)
  | 3, [.agg [.by_ a, .by_ b], .by_ rec], [] => some (.lit (.bool true), [], True)
  | 8, [.by_ rec], [] => some (.tup [.agg [.by_ (e0 rec), .by_ (e1 rec)], .lit (.int .i64 (eE rec))], [], True)
  | 10, [.agg [.by_ a, .by_ b]], [] => some (.tup [.by_ (lR a b), .lit (.int .i64 (lE a b))], [], True)
  | 12, [.agg [.by_ a, .by_ b], .by_ rec], [] => some (.tup [.li 3 ((pW a b rec).map wA), .lit (.int .i64 (pE a b rec))], [], True)
  | 23, [.agg [.by_ a, .by_ b], .li es xs, .lit (.int .i64 cut)], [] => some (.agg [.by_ (apR a b (xs.map unA) cut).1, .by_ (apR a b (xs.map unA) cut).2], [], (es = 3 ∧ xs = (xs.map unA).map wA) ∧ (a.length ≤ 1000000000 ∧ b.length ≤ 1000000000) ∧ small (xs.map unA))
  | 25, [.li es xs], [] => some (.lit (.int .i64 (bS (xs.map unA) : Nat)), [], (es = 3 ∧ xs = (xs.map unA).map wA) ∧ small (xs.map unA))
  | 16, [.by_ a, .by_ b], [] => some (.lit (.bool (decide (a = b))), [], True)
  | _, _, _ => none
theorem sgL_ok : SgOK Try.prog sgL := by
  intro f args ls r ls' vc h hvc
  unfold sgL at h
  split at h <;> first | (simp only [Option.some.injEq, Prod.mk.injEq] at h; obtain ⟨rfl, rfl, rfl⟩ := h) | cases h
  · exact ⟨fnOK Try.func18 (by decide) rfl, light_s _⟩
  · exact ⟨fnOK Try.func19 (by decide) rfl, roll_s _ hvc⟩
  · exact ⟨fnOK Try.func28 (by decide) rfl, mod_s _ _ hvc.1.1 hvc.1.2 hvc.2⟩
  · exact ⟨fnOK Try.func14 (by decide) rfl, awake_s⟩
  · exact ⟨fnOK Try.func3 (by decide) rfl, exact_s _ _ _⟩
  · exact ⟨fnOK Try.func8 (by decide) rfl, empty_s _⟩
  · exact ⟨fnOK Try.func10 (by decide) rfl, load_s _ _⟩
  · exact ⟨fnOK Try.func12 (by decide) rfl, plan_s _ _ _⟩
  · rename_i a b es xs cut
    obtain ⟨⟨rfl, h2⟩, ⟨h3, h4⟩, h5, h6⟩ := hvc
    refine ⟨fnOK Try.func23 (by decide) rfl, ?_⟩
    have := apply_s a b (xs.map unA) cut h3 h4 h5 h6
    rw [← h2] at this
    exact this
  · obtain ⟨⟨rfl, h2⟩, h5, h6⟩ := hvc
    refine ⟨fnOK Try.func25 (by decide) rfl, ?_⟩
    have := bytes_s _ h5
    rw [← h2] at this
    exact this
  · exact ⟨fnOK Try.func16 (by decide) rfl, rsame_s _ _⟩
def stL : Sg2 := fun f args ls =>
  match f, args, ls with
  | 21, [.ptr 0 0 0, .lit (.int .i64 n)], [.li 2 [.agg [L, .lit (.int .i64 z)]]] => some ⟨Int × Int, fun i => (0 ≤ i.1 ∧ i.1 < n) ∧ DcOK L i.2, fun i => .lit (.int .i64 i.1), fun i => [.li 2 [.agg [L, .lit (.int .i64 i.2)]]], DcOK L z ∧ 1 ≤ n ∧ n ≤ 4611686018427387904⟩
  | 20, [.ptr 0 0 0, .lit (.int .i64 n)], [.li 2 [.agg [L, .lit (.int .i64 z)]]] => some ⟨Bool × Int, fun i => DcOK L i.2, fun i => .lit (.bool i.1), fun i => [.li 2 [.agg [L, .lit (.int .i64 i.2)]]], DcOK L z ∧ 1 ≤ n ∧ n ≤ 4611686018427387904⟩
  | 27, [.ptr 0 0 0, .lit (.int .i64 most)], [.li 2 [.agg [L, .lit (.int .i64 z)]]] => some ⟨List UInt8 × Int, fun i => (i.1.length : Int) ≤ most ∧ DcOK L i.2, fun i => .fr (.by_ i.1), fun i => [.li 2 [.agg [L, .lit (.int .i64 i.2)]]], DcOK L z ∧ 0 ≤ most ∧ most ≤ 1000000⟩
  | 22, [.ptr 0 0 0], [.li 2 [.agg [L, .lit (.int .i64 z)]]] => some ⟨(List UInt8 × List UInt8) × Int, fun i => (i.1.1.length ≤ 266 ∧ i.1.2.length ≤ 266) ∧ DcOK L i.2, fun i => .agg [.by_ i.1.1, .by_ i.1.2], fun i => [.li 2 [.agg [L, .lit (.int .i64 i.2)]]], DcOK L z⟩
  | _, _, _ => none
theorem stL_ok : Sg2OK Try.prog stL := by
  intro f args ls R h hvc
  unfold stL at h
  split at h <;> first | (simp only [Option.some.injEq] at h; subst h) | cases h
  · rename_i n L z
    exact ⟨fnOK Try.func21 (by decide) rfl, (next_s L z n hvc.1 hvc.2.1 hvc.2.2).toE (i := (nxI L z n, nxZ L z)) ⟨nx_rng L z n hvc.2.1, dc_nx hvc.1⟩ rfl rfl⟩
  · rename_i n L z
    exact ⟨fnOK Try.func20 (by decide) rfl, (one_s L z n hvc.1 hvc.2.1 hvc.2.2).toE (i := (nxI L z n == n - 1, nxZ L z)) (dc_nx hvc.1) rfl rfl⟩
  · exact ⟨fnOK Try.func27 (by decide) rfl, bytes_e _ _ _ hvc.1 hvc.2.1 hvc.2.2⟩
  · exact ⟨fnOK Try.func22 (by decide) rfl, slots_e _ _ hvc⟩
theorem made_s (l : List Int) (rec : List UInt8) (hl : ∀ y ∈ l, -9223372036854775808 ≤ y ∧ y ≤ 9223372036854775807) : FnS Try.prog 4 [.li 1 (l.map iA), .by_ rec] [] (.lit (.bool true)) [] := by
  have hs := sgL_ok
  have ht := stL_ok
  have hT := Tr_ia l
  refine FnS.of Try.func4 rfl (N := 24) rfl (by simp) (by simp) fun X hX => ?_
  simp only [tmArgs, lentH, Nat.reduceAdd]
  refine WA.regionK ty_ok hs fun K hK => ?_
  simp only [go_sem, Nat.reduceAdd, Nat.reduceLT, Nat.reduceLeDiff, Nat.reduceEqDiff, Nat.reduceSub, Nat.reduceMul, Nat.reduceBEq, Nat.reduceBNe, Nat.reducePow, Nat.reduceDiv, Int.reduceLE, Int.reduceLT, Int.reduceToNat, Int.reduceNeg, Int.reduceAdd, Int.reduceSub, Int.reduceEq, reduceIte, reduceCtorEq, UInt8.reduceOfNat, sgL]
  first
  | refine hK _ ?_
  | refine And.intro (by first | omega | (simp; done) | (simp; omega) | (simp +contextual; done) | (simp_all; done) | (simp_all; omega)) (hK _ ?_)
  clear hK K
  refine WA.seq ?_
  refine WA.regionK ty_ok hs fun K hK => ?_
  simp only [go_sem, Nat.reduceAdd, Nat.reduceLT, Nat.reduceLeDiff, Nat.reduceEqDiff, Nat.reduceSub, Nat.reduceMul, Nat.reduceBEq, Nat.reduceBNe, Nat.reducePow, Nat.reduceDiv, Int.reduceLE, Int.reduceLT, Int.reduceToNat, Int.reduceNeg, Int.reduceAdd, Int.reduceSub, Int.reduceEq, reduceIte, reduceCtorEq, UInt8.reduceOfNat, sgL]
  first
  | refine hK _ ?_
  | refine And.intro (by first | omega | (simp; done) | (simp; omega) | (simp +contextual; done) | (simp_all; done) | (simp_all; omega)) (hK _ ?_)
  clear hK K
  refine WA.cond rfl (fun h => ?_) (fun h => ?_)
  ·
    refine WA.regionK ty_ok hs fun K hK => ?_
    simp only [go_sem, Nat.reduceAdd, Nat.reduceLT, Nat.reduceLeDiff, Nat.reduceEqDiff, Nat.reduceSub, Nat.reduceMul, Nat.reduceBEq, Nat.reduceBNe, Nat.reducePow, Nat.reduceDiv, Int.reduceLE, Int.reduceLT, Int.reduceToNat, Int.reduceNeg, Int.reduceAdd, Int.reduceSub, Int.reduceEq, reduceIte, reduceCtorEq, UInt8.reduceOfNat, sgL]
    first
    | refine hK _ ?_
    | refine And.intro (by first | omega | (simp; done) | (simp; omega) | (simp +contextual; done) | (simp_all; done) | (simp_all; omega)) (hK _ ?_)
    clear hK K
    refine WA.retE ty_ok (xs := [.lit (.bool true)]) (ls' := []) (rv := [.tmp 4]) rfl hX (by decide) (fun _ => rfl) (fun _ _ h => h) ?_
    simp only [go_sem, Nat.reduceAdd, Nat.reduceLT, Nat.reduceLeDiff, Nat.reduceEqDiff, Nat.reduceSub, Nat.reduceMul, Nat.reduceBEq, Nat.reduceBNe, Nat.reducePow, Nat.reduceDiv, Int.reduceLE, Int.reduceLT, Int.reduceToNat, Int.reduceNeg, Int.reduceAdd, Int.reduceSub, Int.reduceEq, reduceIte, reduceCtorEq, UInt8.reduceOfNat, sbT]
  ·
    with_reducible refine WA.skipN ?_
    repeat first | with_reducible refine WN.t ?_ | with_reducible refine WN.b ?_
    have h6 : l.length ≤ 400 := by simp at h; omega
    have hd := dc_roll hl h6
    refine WA.regionK ty_ok hs fun K hK => ?_
    simp only [go_sem, Nat.reduceAdd, Nat.reduceLT, Nat.reduceLeDiff, Nat.reduceEqDiff, Nat.reduceSub, Nat.reduceMul, Nat.reduceBEq, Nat.reduceBNe, Nat.reducePow, Nat.reduceDiv, Int.reduceLE, Int.reduceLT, Int.reduceToNat, Int.reduceNeg, Int.reduceAdd, Int.reduceSub, Int.reduceEq, reduceIte, reduceCtorEq, UInt8.reduceOfNat, sgL, hT]
    first
    | refine hK _ ?_
    | refine And.intro (by first | omega | (simp; done) | (simp; omega) | (simp +contextual; done) | (simp_all; done) | (simp_all; omega)) (hK _ ?_)
    clear hK K
    refine WA.regionK ty_ok hs fun K hK => ?_
    simp only [go_sem, Nat.reduceAdd, Nat.reduceLT, Nat.reduceLeDiff, Nat.reduceEqDiff, Nat.reduceSub, Nat.reduceMul, Nat.reduceBEq, Nat.reduceBNe, Nat.reducePow, Nat.reduceDiv, Int.reduceLE, Int.reduceLT, Int.reduceToNat, Int.reduceNeg, Int.reduceAdd, Int.reduceSub, Int.reduceEq, reduceIte, reduceCtorEq, UInt8.reduceOfNat, sgL]
    first
    | refine hK _ ?_
    | refine And.intro (by first | omega | (simp; done) | (simp; omega) | (simp +contextual; done) | (simp_all; done) | (simp_all; omega)) (hK _ ?_)
    clear hK K
    refine WA.seq ?_
    refine WA.regQ ty_ok hs ht fun K hK => ?_
    simp only [go_sem, Nat.reduceAdd, Nat.reduceLT, Nat.reduceLeDiff, Nat.reduceEqDiff, Nat.reduceSub, Nat.reduceMul, Nat.reduceBEq, Nat.reduceBNe, Nat.reducePow, Nat.reduceDiv, Int.reduceLE, Int.reduceLT, Int.reduceToNat, Int.reduceNeg, Int.reduceAdd, Int.reduceSub, Int.reduceEq, reduceIte, reduceCtorEq, UInt8.reduceOfNat, stL, hd, hT]
    and_intros
    all_goals try first | omega | assumption | (simp; done) | (simp; omega)
    rintro ⟨c, z1⟩ hz1
    try dsimp only at hz1
    try dsimp only
    and_intros
    all_goals try first | omega | assumption | (simp; done) | (simp; omega)
    refine hK _ ?_
    clear hK K
    refine WA.cond rfl (fun h => ?_) (fun h => ?_)
    ·
      refine WA.regQE ty_ok hs ht fun K hK => ?_
      simp only [go_sem, Nat.reduceAdd, Nat.reduceLT, Nat.reduceLeDiff, Nat.reduceEqDiff, Nat.reduceSub, Nat.reduceMul, Nat.reduceBEq, Nat.reduceBNe, Nat.reducePow, Nat.reduceDiv, Int.reduceLE, Int.reduceLT, Int.reduceToNat, Int.reduceNeg, Int.reduceAdd, Int.reduceSub, Int.reduceEq, reduceIte, reduceCtorEq, UInt8.reduceOfNat, stL, hz1, hT]
      and_intros
      all_goals try first | omega | assumption | (simp; done) | (simp; omega)
      rintro ⟨v, z2⟩ ⟨hv, hz2⟩
      try dsimp only at hv hz2
      try dsimp only
      and_intros
      all_goals try omega
      with_reducible refine hK _ (WN.mk ?_)
      clear hK K
      repeat first | with_reducible refine WN.t ?_ | with_reducible refine WN.b ?_
      refine WA.regQ ty_ok hs ht fun K hK => ?_
      simp only [go_sem, Nat.reduceAdd, Nat.reduceLT, Nat.reduceLeDiff, Nat.reduceEqDiff, Nat.reduceSub, Nat.reduceMul, Nat.reduceBEq, Nat.reduceBNe, Nat.reducePow, Nat.reduceDiv, Int.reduceLE, Int.reduceLT, Int.reduceToNat, Int.reduceNeg, Int.reduceAdd, Int.reduceSub, Int.reduceEq, reduceIte, reduceCtorEq, UInt8.reduceOfNat, stL, sgL, hz2, hT]
      and_intros
      all_goals try first | omega | assumption | (simp; done) | (simp; omega)
      rintro ⟨⟨a, b⟩, z3⟩ ⟨hab, hz3⟩
      try dsimp only at hab hz3
      try dsimp only
      and_intros
      all_goals try first | omega | assumption | (simp; done) | (simp; omega)
      refine hK _ ?_
      clear hK K
      refine WA.retE ty_ok (xs := [.lit (.bool true)]) (ls' := []) (rv := [.tmp 4]) rfl hX (by decide) (fun _ => rfl) (fun _ _ h => h) ?_
      simp only [go_sem, Nat.reduceAdd, Nat.reduceLT, Nat.reduceLeDiff, Nat.reduceEqDiff, Nat.reduceSub, Nat.reduceMul, Nat.reduceBEq, Nat.reduceBNe, Nat.reducePow, Nat.reduceDiv, Int.reduceLE, Int.reduceLT, Int.reduceToNat, Int.reduceNeg, Int.reduceAdd, Int.reduceSub, Int.reduceEq, reduceIte, reduceCtorEq, UInt8.reduceOfNat, sbT]
    ·
      with_reducible refine WA.skipN ?_
      repeat first | with_reducible refine WN.t ?_ | with_reducible refine WN.b ?_
      refine WA.regQ ty_ok hs ht fun K hK => ?_
      simp only [go_sem, Nat.reduceAdd, Nat.reduceLT, Nat.reduceLeDiff, Nat.reduceEqDiff, Nat.reduceSub, Nat.reduceMul, Nat.reduceBEq, Nat.reduceBNe, Nat.reducePow, Nat.reduceDiv, Int.reduceLE, Int.reduceLT, Int.reduceToNat, Int.reduceNeg, Int.reduceAdd, Int.reduceSub, Int.reduceEq, reduceIte, reduceCtorEq, UInt8.reduceOfNat, stL, sgL, hz1, hT]
      and_intros
      all_goals try first | omega | assumption | (simp; done) | (simp; omega)
      rintro ⟨⟨a, b⟩, z3⟩ ⟨hab, hz3⟩
      try dsimp only at hab hz3
      try dsimp only
      and_intros
      all_goals try first | omega | assumption | (simp; done) | (simp; omega)
      refine hK _ ?_
      clear hK K
      refine WA.retE ty_ok (xs := [.lit (.bool true)]) (ls' := []) (rv := [.tmp 4]) rfl hX (by decide) (fun _ => rfl) (fun _ _ h => h) ?_
      simp only [go_sem, Nat.reduceAdd, Nat.reduceLT, Nat.reduceLeDiff, Nat.reduceEqDiff, Nat.reduceSub, Nat.reduceMul, Nat.reduceBEq, Nat.reduceBNe, Nat.reducePow, Nat.reduceDiv, Int.reduceLE, Int.reduceLT, Int.reduceToNat, Int.reduceNeg, Int.reduceAdd, Int.reduceSub, Int.reduceEq, reduceIte, reduceCtorEq, UInt8.reduceOfNat, sbT]
end Go.Proofs.Ytjhiagelgleomaa
