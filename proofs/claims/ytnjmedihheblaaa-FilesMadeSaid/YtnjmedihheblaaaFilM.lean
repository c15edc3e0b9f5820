import Derived.Test.YtnjmedihheblaaaFilW
import Derived.Test.YtnjmedihheblaaaFilZ
import Derived.Test.YtnjmedihheblaaaFilDe
namespace Go.Proofs.Ytnjmedihheblaaa
open Go.RowKit Go.TravelBase Go.TravelAbs
set_option linter.unusedVariables false
set_option linter.unusedSimpArgs false













/-! ### The law FilesMade -/
def sgM1 : Sg := fun f args ls =>
  match f, args, ls with
  | 11, [.li 1 xs], [] => some (.lit (.bool (decide ((xs.length : Int) ≤ 400))), [], True)
  | 12, [.li 1 xs], [] => some (.fr (.opt true (.li 2 [.agg [.li 1 xs, .lit (.int .i64 0)]])), [], Tr (.li 1 xs) = True)
  | 8, [], [] => some (.lit (.bool true), [], True)
  | 15, [.ptr 0 0 0, .lit (.int .i64 n)], [.li 2 [.agg [L, .lit (.int .i64 z)]]] => some (.lit (.int .i64 (nxI L z n)), [.li 2 [.agg [L, .lit (.int .i64 (nxZ L z))]]], DcOK L z ∧ 1 ≤ n ∧ n ≤ 4611686018427387904)
  | 24, [.ptr 0 0 0, .lit (.int .i64 n)], [.li 2 [.agg [L, .lit (.int .i64 z)]]] => some (.lit (.bool (nxI L z n == n - 1)), [.li 2 [.agg [L, .lit (.int .i64 (nxZ L z))]]], DcOK L z ∧ 1 ≤ n ∧ n ≤ 4611686018427387904)
  | 14, [.ptr 0 0 0], [.li 2 [.agg [L, .lit (.int .i64 z)]]] => some (.agg [.lit (.int .i64 (dSt L z).pw), .lit (.bool (dSt L z).b1), .lit (.bool (dSt L z).chip), .lit (.bool (dSt L z).term), .lit (.int .i64 (dSt L z).rights)], [.li 2 [.agg [L, .lit (.int .i64 (dSz L z))]]], DcOK L z)
  | _, _, _ => none
theorem sgM1_ok : SgOK Try.prog sgM1 := by
  intro f args ls r ls' vc h hvc
  unfold sgM1 at h
  split at h <;> first | (simp only [Option.some.injEq, Prod.mk.injEq] at h; obtain ⟨rfl, rfl, rfl⟩ := h) | cases h
  · exact ⟨(fnOK Try.func11 (by decide) rfl), light_s _⟩
  · exact ⟨(fnOK Try.func12 (by decide) rfl), roll_s _ hvc⟩
  · exact ⟨(fnOK Try.func8 (by decide) rfl), awake_s⟩
  · exact ⟨(fnOK Try.func15 (by decide) rfl), next_s _ _ _ hvc.1 hvc.2.1 hvc.2.2⟩
  · exact ⟨(fnOK Try.func24 (by decide) rfl), one_s _ _ _ hvc.1 hvc.2.1 hvc.2.2⟩
  · exact ⟨(fnOK Try.func14 (by decide) rfl), dstate_s _ _ hvc⟩
def stM1 : Sg2 := fun f args ls =>
  match f, args, ls with
  | 22, [.ptr 0 0 0], [.li 2 [.agg [L, .lit (.int .i64 z)]]] => some ⟨(List Fl × List Fap) × Int, fun i => (i.1.1.length ≤ 4 ∧ i.1.2.length ≤ 2 ∧ ∀ x ∈ i.1.2, x.files.length ≤ 4) ∧ DcOK L i.2, fun i => .agg [.li 5 (i.1.1.map flA), .li 2 (i.1.2.map apA)], fun i => [.li 2 [.agg [L, .lit (.int .i64 i.2)]]], DcOK L z⟩
  | 23, [.ptr 0 0 0, .agg [.li 5 xs, .li 2 ys]], [.li 2 [.agg [L, .lit (.int .i64 z)]]] => some ⟨(Int × Int) × Int, fun i => DcOK L i.2, fun i => .agg [.lit (.int .i64 i.1.1), .lit (.int .i64 i.1.2)], fun i => [.li 2 [.agg [L, .lit (.int .i64 i.2)]]], DcOK L z ∧ (xs = (xs.map unF).map flA ∧ ys = (ys.map unP).map apA) ∧ (xs.map unF).length ≤ 4 ∧ (ys.map unP).length ≤ 2 ∧ ∀ x ∈ ys.map unP, x.files.length ≤ 4⟩
  | 25, [.ptr 0 0 0, .agg [.li 5 xs, .li 2 ys]], [.li 2 [.agg [L, .lit (.int .i64 z)]]] => some ⟨(List Fl × List Fap) × Int, fun i => DcOK L i.2, fun i => .agg [.li 5 (i.1.1.map flA), .li 2 (i.1.2.map apA)], fun i => [.li 2 [.agg [L, .lit (.int .i64 i.2)]]], DcOK L z ∧ (xs = (xs.map unF).map flA ∧ ys = (ys.map unP).map apA) ∧ (xs.map unF).length ≤ 4 ∧ (ys.map unP).length ≤ 2⟩
  | _, _, _ => none
theorem stM1_ok : Sg2OK Try.prog stM1 := by
  intro f args ls R h hvc
  unfold stM1 at h
  split at h <;> first | (simp only [Option.some.injEq] at h; subst h) | cases h
  · exact ⟨(fnOK Try.func22 (by decide) rfl), dFiles_e _ _ hvc⟩
  · rename_i xs ys L z
    refine ⟨(fnOK Try.func23 (by decide) rfl), ?_⟩
    have := place_e L z hvc.1 (xs.map unF) (ys.map unP) hvc.2.2.1 hvc.2.2.2.1 hvc.2.2.2.2
    rw [← hvc.2.1.1, ← hvc.2.1.2] at this
    exact this
  · rename_i xs ys L z
    refine ⟨(fnOK Try.func25 (by decide) rfl), ?_⟩
    have := oddfiles_e L z hvc.1 (xs.map unF) (ys.map unP) hvc.2.2.1 hvc.2.2.2
    rw [← hvc.2.1.1, ← hvc.2.1.2] at this
    exact this
def sgM2 : Sg := fun f args ls =>
  match f, args, ls with
  | 26, [.agg [.li 5 xs, .li 2 ys], .by_ w], [] => some (.tup [.agg [.lit (.int .i64 (namA w (xs.map unF) (ys.map unP))), .lit (.int .i64 (namF w (xs.map unF) (ys.map unP)))], .lit (.int .i64 (namE w (xs.map unF) (ys.map unP)))], [], xs = (xs.map unF).map flA ∧ ys = (ys.map unP).map apA)
  | 27, [.agg [.li 5 xs, .li 2 ys], .by_ w], [] => some (.tup [.agg [.lit (.int .i64 (namA w (xs.map unF) (ys.map unP))), .lit (.int .i64 (namF w (xs.map unF) (ys.map unP)))], .lit (.int .i64 (namE w (xs.map unF) (ys.map unP)))], [], xs = (xs.map unF).map flA ∧ ys = (ys.map unP).map apA)
  | 15, [.ptr 0 0 0, .lit (.int .i64 n)], [.li 2 [.agg [L, .lit (.int .i64 z)]]] => some (.lit (.int .i64 (nxI L z n)), [.li 2 [.agg [L, .lit (.int .i64 (nxZ L z))]]], DcOK L z ∧ 1 ≤ n ∧ n ≤ 4611686018427387904)
  | _, _, _ => none
theorem sgM2_ok : SgOK Try.prog sgM2 := by
  intro f args ls r ls' vc h hvc
  unfold sgM2 at h
  split at h <;> first | (simp only [Option.some.injEq, Prod.mk.injEq] at h; obtain ⟨rfl, rfl, rfl⟩ := h) | cases h
  · rename_i xs ys w
    refine ⟨(fnOK Try.func26 (by decide) rfl), ?_⟩
    have := name_s (xs.map unF) (ys.map unP) w
    rw [← hvc.1, ← hvc.2] at this
    exact this
  · rename_i xs ys w
    refine ⟨(fnOK Try.func27 (by decide) rfl), ?_⟩
    have := rname_s (xs.map unF) (ys.map unP) w
    rw [← hvc.1, ← hvc.2] at this
    exact this
  · exact ⟨(fnOK Try.func15 (by decide) rfl), next_s _ _ _ hvc.1 hvc.2.1 hvc.2.2⟩
def sgM3 : Sg := fun f args ls =>
  match f, args, ls with
  | 21, [.agg [.li 5 xs, .li 2 ys], .agg [.lit (.int .i64 a), .lit (.int .i64 b)], .agg [.lit (.int .i64 pw), .lit (.bool b1), .lit (.bool ch), .lit (.bool tm), .lit (.int .i64 rg)], .lit (.int .i64 n)], [] => some (.lit (.bool true), [], xs = (xs.map unF).map flA ∧ ys = (ys.map unP).map apA)
  | 20, [.by_ a, .by_ b], [] => some (.lit (.bool (decide (a = b))), [], True)
  | 15, [.ptr 0 0 0, .lit (.int .i64 n)], [.li 2 [.agg [L, .lit (.int .i64 z)]]] => some (.lit (.int .i64 (nxI L z n)), [.li 2 [.agg [L, .lit (.int .i64 (nxZ L z))]]], DcOK L z ∧ 1 ≤ n ∧ n ≤ 4611686018427387904)
  | _, _, _ => none
theorem sgM3_ok : SgOK Try.prog sgM3 := by
  intro f args ls r ls' vc h hvc
  unfold sgM3 at h
  split at h <;> first | (simp only [Option.some.injEq, Prod.mk.injEq] at h; obtain ⟨rfl, rfl, rfl⟩ := h) | cases h
  · rename_i xs ys a b pw b1 ch tm rg n
    refine ⟨(fnOK Try.func21 (by decide) rfl), ?_⟩
    have := ex_s (xs.map unF) (ys.map unP) a b ⟨pw, b1, ch, tm, rg⟩ n
    rw [← hvc.1, ← hvc.2] at this
    exact this
  · exact ⟨(fnOK Try.func20 (by decide) rfl), rsame_s _ _⟩
  · exact ⟨(fnOK Try.func15 (by decide) rfl), next_s _ _ _ hvc.1 hvc.2.1 hvc.2.2⟩
set_option maxRecDepth 20000 in
set_option maxHeartbeats 4000000 in
theorem made_s (l : List Int) (hl : ∀ y ∈ l, -9223372036854775808 ≤ y ∧ y ≤ 9223372036854775807) (o n : Int) : FnS Try.prog 7 [.li 1 (l.map iA), .lit (.int .i64 o), .lit (.int .i64 n)] [] (.lit (.bool true)) [] := by
  have hs := sgM1_ok
  have ht := stM1_ok
  have hT := Tr_ia l
  refine FnS.of Try.func7 rfl (N := 116) rfl (by simp) (by simp) fun X hX => ?_
  simp only [tmArgs, lentH, Nat.reduceAdd]
  refine WA.regionK ty_ok hs fun K hK => ?_
  simp only [go_sem, Nat.reduceAdd, Nat.reduceLT, Nat.reduceLeDiff, Nat.reduceEqDiff, Nat.reduceSub, Nat.reduceMul, Nat.reduceBEq, Nat.reduceBNe, Nat.reducePow, Nat.reduceDiv, Int.reduceLE, Int.reduceLT, Int.reduceToNat, Int.reduceNeg, Int.reduceAdd, Int.reduceSub, Int.reduceEq, reduceIte, reduceCtorEq, UInt8.reduceOfNat, true_and]
  first
  | refine hK _ ?_
  | refine And.intro (by first | omega | (simp; done) | (simp; omega) | (simp +contextual; done) | (simp_all; done) | (simp_all; omega)) (hK _ ?_)
  clear hK K
  refine WA.seq ?_
  refine WA.regionK ty_ok hs fun K hK => ?_
  simp only [go_sem, Nat.reduceAdd, Nat.reduceLT, Nat.reduceLeDiff, Nat.reduceEqDiff, Nat.reduceSub, Nat.reduceMul, Nat.reduceBEq, Nat.reduceBNe, Nat.reducePow, Nat.reduceDiv, Int.reduceLE, Int.reduceLT, Int.reduceToNat, Int.reduceNeg, Int.reduceAdd, Int.reduceSub, Int.reduceEq, reduceIte, reduceCtorEq, UInt8.reduceOfNat, sgM1]
  first
  | refine hK _ ?_
  | refine And.intro (by first | omega | (simp; done) | (simp; omega) | (simp +contextual; done) | (simp_all; done) | (simp_all; omega)) (hK _ ?_)
  clear hK K
  refine WA.cond rfl (fun h => ?_) (fun h => ?_)
  ·
    refine WA.regionK ty_ok hs fun K hK => ?_
    simp only [go_sem, Nat.reduceAdd, Nat.reduceLT, Nat.reduceLeDiff, Nat.reduceEqDiff, Nat.reduceSub, Nat.reduceMul, Nat.reduceBEq, Nat.reduceBNe, Nat.reducePow, Nat.reduceDiv, Int.reduceLE, Int.reduceLT, Int.reduceToNat, Int.reduceNeg, Int.reduceAdd, Int.reduceSub, Int.reduceEq, reduceIte, reduceCtorEq, UInt8.reduceOfNat, sgM1]
    first
    | refine hK _ ?_
    | refine And.intro (by first | omega | (simp; done) | (simp; omega) | (simp +contextual; done) | (simp_all; done) | (simp_all; omega)) (hK _ ?_)
    clear hK K
    refine WA.retE ty_ok (xs := [.lit (.bool true)]) (ls' := []) (rv := [.tmp 6]) rfl hX (by decide) (fun _ => rfl) (fun _ _ h => h) ?_
    simp only [go_sem, Nat.reduceAdd, Nat.reduceLT, Nat.reduceLeDiff, Nat.reduceEqDiff, Nat.reduceSub, Nat.reduceMul, Nat.reduceBEq, Nat.reduceBNe, Nat.reducePow, Nat.reduceDiv, Int.reduceLE, Int.reduceLT, Int.reduceToNat, Int.reduceNeg, Int.reduceAdd, Int.reduceSub, Int.reduceEq, reduceIte, reduceCtorEq, UInt8.reduceOfNat, sbT]
  ·
    with_reducible refine WA.skipN ?_
    repeat first | with_reducible refine WN.t ?_ | with_reducible refine WN.b ?_
    have h6 : l.length ≤ 400 := by simp at h; omega
    have hd := dc_roll hl h6
    clear h
    refine WA.regionK ty_ok hs fun K hK => ?_
    simp only [go_sem, Nat.reduceAdd, Nat.reduceLT, Nat.reduceLeDiff, Nat.reduceEqDiff, Nat.reduceSub, Nat.reduceMul, Nat.reduceBEq, Nat.reduceBNe, Nat.reducePow, Nat.reduceDiv, Int.reduceLE, Int.reduceLT, Int.reduceToNat, Int.reduceNeg, Int.reduceAdd, Int.reduceSub, Int.reduceEq, reduceIte, reduceCtorEq, UInt8.reduceOfNat, sgM1, hT]
    first
    | refine hK _ ?_
    | refine And.intro (by first | omega | (simp; done) | (simp; omega) | (simp +contextual; done) | (simp_all; done) | (simp_all; omega)) (hK _ ?_)
    clear hK K
    obtain ⟨L, hL⟩ : ∃ L, AV.li 1 (l.map iA) = L := ⟨_, rfl⟩
    rw [hL] at hd hT ⊢
    refine WA.regQ ty_ok hs ht fun K hK => ?_
    simp only [go_sem, Nat.reduceAdd, Nat.reduceLT, Nat.reduceLeDiff, Nat.reduceEqDiff, Nat.reduceSub, Nat.reduceMul, Nat.reduceBEq, Nat.reduceBNe, Nat.reducePow, Nat.reduceDiv, Int.reduceLE, Int.reduceLT, Int.reduceToNat, Int.reduceNeg, Int.reduceAdd, Int.reduceSub, Int.reduceEq, reduceIte, reduceCtorEq, UInt8.reduceOfNat, stM1, hd, hT, Tr_fls, Tr_aps]
    repeat refine And.intro (by first | omega | assumption | (simp; done) | (simp; omega) | (simp +contextual; done) | (simp_all; done) | (simp_all; omega)) ?_
    rintro ⟨⟨root, apps⟩, z1⟩ ⟨⟨hr1, ha1, ha2⟩, hd1⟩
    try dsimp only at hd1
    try dsimp only
    repeat refine And.intro (by first | omega | assumption | (simp; done) | (simp; omega) | (simp +contextual; done) | (simp_all; done) | (simp_all; omega)) ?_
    refine hK _ ?_
    clear hK K
    refine WA.regQ ty_ok hs ht fun K hK => ?_
    simp only [go_sem, Nat.reduceAdd, Nat.reduceLT, Nat.reduceLeDiff, Nat.reduceEqDiff, Nat.reduceSub, Nat.reduceMul, Nat.reduceBEq, Nat.reduceBNe, Nat.reducePow, Nat.reduceDiv, Int.reduceLE, Int.reduceLT, Int.reduceToNat, Int.reduceNeg, Int.reduceAdd, Int.reduceSub, Int.reduceEq, reduceIte, reduceCtorEq, UInt8.reduceOfNat, sgM1, stM1, hd1, hT, un_fls, un_aps, Tr_fls, Tr_aps, hr1, ha1, ha2]
    repeat refine And.intro (by first | omega | assumption | (simp; done) | (simp; omega) | (simp +contextual; done) | (simp_all; done) | (simp_all; omega)) ?_
    rintro ⟨⟨pa, pf⟩, z2⟩ hd2
    try dsimp only at hd2
    try dsimp only
    repeat refine And.intro (by first | omega | assumption | (simp; done) | (simp; omega) | (simp +contextual; done) | (simp_all; done) | (simp_all; omega)) ?_
    refine hK _ ?_
    clear hK K
    simp only at hr1 ha1 ha2
    obtain ⟨s, hs1⟩ : ∃ s, dSt L z2 = s := ⟨_, rfl⟩
    have hd3 : DcOK L (dSz L z2) := dc_nx (dc_nx (dc_nx (dc_nx (dc_nx hd2))))
    obtain ⟨z3, hz3⟩ : ∃ s, dSz L z2 = s := ⟨_, rfl⟩
    rw [hz3] at hd3
    rw [hs1, hz3]
    have hd4 := dc_nx hd3
    refine WA.join (fun (i : (List Fl × List Fap) × Int) => ⟨[(1, .lit (.int .i64 o)), (2, .lit (.int .i64 n)), (7, .ptr 2040 0 0), (8, .ptr 2072 0 0), (9, .ptr 2128 0 0), (10, .ptr 2136 0 0)], [(2136, ⟨.li 5 [.agg [.lit (.int .i64 s.pw), .lit (.bool s.b1), .lit (.bool s.chip), .lit (.bool s.term), .lit (.int .i64 s.rights)]], 0, false⟩), (2128, ⟨.li 2 [.agg [.lit (.int .i64 pa), .lit (.int .i64 pf)]], 0, false⟩), (2040, ⟨.li 2 [.agg [L, .lit (.int .i64 i.2)]], 0, false⟩), (2072, ⟨.li 2 [.agg [.li 5 (i.1.1.map flA), .li 2 (i.1.2.map apA)]], 0, false⟩)], 3000, 116⟩) (fun i => DcOK L i.2) ?_ ?_
    ·
      refine WA.regQ ty_ok hs ht fun K hK => ?_
      simp only [go_sem, Nat.reduceAdd, Nat.reduceLT, Nat.reduceLeDiff, Nat.reduceEqDiff, Nat.reduceSub, Nat.reduceMul, Nat.reduceBEq, Nat.reduceBNe, Nat.reducePow, Nat.reduceDiv, Int.reduceLE, Int.reduceLT, Int.reduceToNat, Int.reduceNeg, Int.reduceAdd, Int.reduceSub, Int.reduceEq, reduceIte, reduceCtorEq, UInt8.reduceOfNat, sgM1, stM1, hd3, hT]
      repeat refine And.intro (by first | omega | assumption | (simp; done) | (simp; omega) | (simp +contextual; done) | (simp_all; done) | (simp_all; omega)) ?_
      refine hK _ ?_
      clear hK K
      refine WA.cond rfl (fun h => ?_) (fun h => ?_)
      ·
        refine WA.regQE ty_ok hs ht fun K hK => ?_
        simp only [go_sem, Nat.reduceAdd, Nat.reduceLT, Nat.reduceLeDiff, Nat.reduceEqDiff, Nat.reduceSub, Nat.reduceMul, Nat.reduceBEq, Nat.reduceBNe, Nat.reducePow, Nat.reduceDiv, Int.reduceLE, Int.reduceLT, Int.reduceToNat, Int.reduceNeg, Int.reduceAdd, Int.reduceSub, Int.reduceEq, reduceIte, reduceCtorEq, UInt8.reduceOfNat, stM1, hd4, hT, un_fls, un_aps, Tr_fls, Tr_aps, hr1, ha1]
        repeat refine And.intro (by first | omega | assumption | (simp; done) | (simp; omega) | (simp +contextual; done) | (simp_all; done) | (simp_all; omega)) ?_
        rintro ⟨⟨r2, a2⟩, z4⟩ hd5
        try dsimp only at hd5
        try dsimp only
        refine hK _ (joinE hX (fun k => k) (((r2, a2), z4)) (hd5) (by simp only [go_sem, Int.natCast_add, Nat.reduceAdd, Nat.reduceLT, Nat.reduceLeDiff, Nat.reduceEqDiff, Nat.reduceSub, Nat.reduceMul, Nat.reduceBEq, Nat.reduceBNe, Nat.reducePow, Nat.reduceDiv, Int.reduceLE, Int.reduceLT, Int.reduceToNat, Int.reduceNeg, Int.reduceAdd, Int.reduceSub, Int.reduceEq, reduceIte, reduceCtorEq, UInt8.reduceOfNat, hT, Tr_fls, Tr_aps] <;> (try and_intros) <;> (try omega)))
      ·
        refine WA.skipN (WN.join hX (fun k => k) (((root, apps), nxZ L z3)) (hd4) (by simp only [go_sem, Int.natCast_add, Nat.reduceAdd, Nat.reduceLT, Nat.reduceLeDiff, Nat.reduceEqDiff, Nat.reduceSub, Nat.reduceMul, Nat.reduceBEq, Nat.reduceBNe, Nat.reducePow, Nat.reduceDiv, Int.reduceLE, Int.reduceLT, Int.reduceToNat, Int.reduceNeg, Int.reduceAdd, Int.reduceSub, Int.reduceEq, reduceIte, reduceCtorEq, UInt8.reduceOfNat, hT, Tr_fls, Tr_aps] <;> (try and_intros) <;> (try omega)))
    rintro ⟨⟨r, a⟩, z4⟩ hd5
    simp only at hd5
    have hS : (⟨s.pw, s.b1, s.chip, s.term, s.rights⟩ : Stt) = s := rfl
    have hd6 := dc_nx hd5
    have hd7 := dc_nx hd6
    have hd8 := dc_nx hd7
    have hs := sgM2_ok
    refine WA.regionK ty_ok hs fun K hK => ?_
    simp only [go_sem, Nat.reduceAdd, Nat.reduceLT, Nat.reduceLeDiff, Nat.reduceEqDiff, Nat.reduceSub, Nat.reduceMul, Nat.reduceBEq, Nat.reduceBNe, Nat.reducePow, Nat.reduceDiv, Int.reduceLE, Int.reduceLT, Int.reduceToNat, Int.reduceNeg, Int.reduceAdd, Int.reduceSub, Int.reduceEq, reduceIte, reduceCtorEq, UInt8.reduceOfNat, sgM2, hd5, hT]
    first
    | refine hK _ ?_
    | refine And.intro (by first | omega | (simp; done) | (simp; omega) | (simp +contextual; done) | (simp_all; done) | (simp_all; omega)) (hK _ ?_)
    clear hK K
    refine WA.regionK ty_ok hs fun K hK => ?_
    simp only [go_sem, Nat.reduceAdd, Nat.reduceLT, Nat.reduceLeDiff, Nat.reduceEqDiff, Nat.reduceSub, Nat.reduceMul, Nat.reduceBEq, Nat.reduceBNe, Nat.reducePow, Nat.reduceDiv, Int.reduceLE, Int.reduceLT, Int.reduceToNat, Int.reduceNeg, Int.reduceAdd, Int.reduceSub, Int.reduceEq, reduceIte, reduceCtorEq, UInt8.reduceOfNat, sgM2, Tr_fls, Tr_aps, un_fls, un_aps]
    first
    | refine hK _ ?_
    | refine And.intro (by first | omega | (simp; done) | (simp; omega) | (simp +contextual; done) | (simp_all; done) | (simp_all; omega)) (hK _ ?_)
    clear hK K
    refine WA.regionK ty_ok hs fun K hK => ?_
    simp only [go_sem, Nat.reduceAdd, Nat.reduceLT, Nat.reduceLeDiff, Nat.reduceEqDiff, Nat.reduceSub, Nat.reduceMul, Nat.reduceBEq, Nat.reduceBNe, Nat.reducePow, Nat.reduceDiv, Int.reduceLE, Int.reduceLT, Int.reduceToNat, Int.reduceNeg, Int.reduceAdd, Int.reduceSub, Int.reduceEq, reduceIte, reduceCtorEq, UInt8.reduceOfNat, sgM2, Tr_fls, Tr_aps, un_fls, un_aps]
    first
    | refine hK _ ?_
    | refine And.intro (by first | omega | (simp; done) | (simp; omega) | (simp +contextual; done) | (simp_all; done) | (simp_all; omega)) (hK _ ?_)
    clear hK K
    have hs := sgEb_ok
    refine WA.regionK ty_ok hs fun K hK => ?_
    simp only [go_sem, Nat.reduceAdd, Nat.reduceLT, Nat.reduceLeDiff, Nat.reduceEqDiff, Nat.reduceSub, Nat.reduceMul, Nat.reduceBEq, Nat.reduceBNe, Nat.reducePow, Nat.reduceDiv, Int.reduceLE, Int.reduceLT, Int.reduceToNat, Int.reduceNeg, Int.reduceAdd, Int.reduceSub, Int.reduceEq, reduceIte, reduceCtorEq, UInt8.reduceOfNat, sgEb, Tr_fls, Tr_aps, un_fls, un_aps, hS]
    first
    | refine hK _ ?_
    | refine And.intro (by first | omega | (simp; done) | (simp; omega) | (simp +contextual; done) | (simp_all; done) | (simp_all; omega)) (hK _ ?_)
    clear hK K
    refine WA.regionK ty_ok hs fun K hK => ?_
    simp only [go_sem, Nat.reduceAdd, Nat.reduceLT, Nat.reduceLeDiff, Nat.reduceEqDiff, Nat.reduceSub, Nat.reduceMul, Nat.reduceBEq, Nat.reduceBNe, Nat.reducePow, Nat.reduceDiv, Int.reduceLE, Int.reduceLT, Int.reduceToNat, Int.reduceNeg, Int.reduceAdd, Int.reduceSub, Int.reduceEq, reduceIte, reduceCtorEq, UInt8.reduceOfNat, sgEb, Tr_fls, Tr_aps, un_fls, un_aps, hS]
    first
    | refine hK _ ?_
    | refine And.intro (by first | omega | (simp; done) | (simp; omega) | (simp +contextual; done) | (simp_all; done) | (simp_all; omega)) (hK _ ?_)
    clear hK K
    have hs := sgM3_ok
    have r8 := nx_rng L (nxZ L (nxZ L z4)) 8 (by omega)
    refine WA.drawnH mixed_ ty_ok hs (tbl := [[], [], [], [], [3], [0, 1, 2, 3, 4], [0, 1, 2, 3, 4, 5], [0, 1, 2, 3, 4, 5, 6], [0, 1, 2, 3, 4, 5, 6], [0, 1, 2, 3, 4, 5, 6], [0, 1, 2, 3, 4, 5, 6], [0, 1, 2, 3, 4, 5, 6, 10], [0, 1, 2, 3, 4, 5, 6, 10, 11], [0, 1, 2, 3, 4, 5, 6, 7, 8, 9, 10, 11, 12], [0, 1, 2, 3, 4, 5, 6, 7, 8, 9, 10, 11, 12, 13], [0, 1, 2, 3, 4, 5, 6, 7, 8, 9, 10, 11, 12, 13, 14], [0, 1, 2, 3, 4, 5, 6, 7, 8, 9, 10, 11, 12, 13, 14, 15], [0, 1, 2, 3, 4, 5, 6, 7, 8, 9, 10, 11, 12, 13, 14, 15], [0, 1, 2, 3, 4, 5, 6, 7, 8, 9, 10, 11, 12, 13, 14, 15, 16, 17], [0, 1, 2, 3, 4, 5, 6, 7, 8, 9, 10, 11, 12, 13, 14, 15, 16, 17, 18], [0, 1, 2, 3, 4, 5, 6, 7, 8, 9, 10, 11, 12, 13, 14, 15, 16, 17, 18, 19], [0, 1, 2, 3, 4, 5, 6, 7, 8, 9, 10, 11, 12, 13, 14, 15, 16, 17, 18, 19, 20], [0, 1, 2, 3, 4, 5, 6, 7, 8, 9, 10, 11, 12, 13, 14, 15, 16, 17, 18, 19, 20], [0, 1, 2, 3, 4, 5, 6, 7, 8, 9, 10, 11, 12, 13, 14, 15, 16, 17, 18, 19, 20, 21, 22], [0, 1, 2, 3, 4, 5, 6, 7, 8, 9, 10, 11, 12, 13, 14, 15, 16, 17, 18, 19, 20, 21, 22, 23], [0, 1, 2, 3, 4, 5, 6, 7, 8, 9, 10, 11, 12, 13, 14, 15, 16, 17, 18, 19, 20, 21, 22, 23, 24], [0, 1, 2, 3, 4, 5, 6, 7, 8, 9, 10, 11, 12, 13, 14, 15, 16, 17, 18, 19, 20, 21, 22, 23, 24, 25], [0, 1, 2, 3, 4, 5, 6, 7, 8, 9, 10, 11, 12, 13, 14, 15, 16, 17, 18, 19, 20, 21, 22, 23, 24, 25], [0, 1, 2, 3, 4, 5, 6, 7, 8, 9, 10, 11, 12, 13, 14, 15, 16, 17, 18, 19, 20, 21, 22, 23, 24, 25, 26, 27], [0, 1, 2, 3, 4, 5, 6, 7, 8, 9, 10, 11, 12, 13, 14, 15, 16, 17, 18, 19, 20, 21, 22, 23, 24, 25, 26, 27, 28], [0, 1, 2, 3, 4, 5, 6, 7, 8, 9, 10, 11, 12, 13, 14, 15, 16, 17, 18, 19, 20, 21, 22, 23, 24, 25, 26, 27, 28, 29], [0, 1, 2, 3, 4, 5, 6, 7, 8, 9, 10, 11, 12, 13, 14, 15, 16, 17, 18, 19, 20, 21, 22, 23, 24, 25, 26, 27, 28, 29, 30], [0, 1, 2, 3, 4, 5, 6, 7, 8, 9, 10, 11, 12, 13, 14, 15, 16, 17, 18, 19, 20, 21, 22, 23, 24, 25, 26, 27, 28, 29, 30], [0, 1, 2, 3, 4, 5, 6, 7, 8, 9, 10, 11, 12, 13, 14, 15, 16, 17, 18, 19, 20, 21, 22, 23, 24, 25, 26, 27, 28, 29, 30, 31, 32], [0, 1, 2, 3, 4, 5, 6, 7, 8, 9, 10, 11, 12, 13, 14, 15, 16, 17, 18, 19, 20, 21, 22, 23, 24, 25, 26, 27, 28, 29, 30, 31, 32, 33], [0, 1, 2, 3, 4, 5, 6, 7, 8, 9, 10, 11, 12, 13, 14, 15, 16, 17, 18, 19, 20, 21, 22, 23, 24, 25, 26, 27, 28, 29, 30, 31, 32, 33, 34], [0, 1, 2, 3, 4, 5, 6, 7, 8, 9, 10, 11, 12, 13, 14, 15, 16, 17, 18, 19, 20, 21, 22, 23, 24, 25, 26, 27, 28, 29, 30, 31, 32, 33, 34, 35], [0, 1, 2, 3, 4, 5, 6, 7, 8, 9, 10, 11, 12, 13, 14, 15, 16, 17, 18, 19, 20, 21, 22, 23, 24, 25, 26, 27, 28, 29, 30, 31, 32, 33, 34, 35], [0, 1, 2, 3, 4, 5, 6, 7, 8, 9, 10, 11, 12, 13, 14, 15, 16, 17, 18, 19, 20, 21, 22, 23, 24, 25, 26, 27, 28, 29, 30, 31, 32, 33, 34, 35, 36, 37], [0, 1, 2, 3, 4, 5, 6, 7, 8, 9, 10, 11, 12, 13, 14, 15, 16, 17, 18, 19, 20, 21, 22, 23, 24, 25, 26, 27, 28, 29, 30, 31, 32, 33, 34, 35, 36, 37, 38], [0, 1, 2, 3, 4, 5, 6, 7, 8, 9, 10, 11, 12, 13, 14, 15, 16, 17, 18, 19, 20, 21, 22, 23, 24, 25, 26, 27, 28, 29, 30, 31, 32, 33, 34, 35, 36, 37, 38, 39]]) (nb := [0, 1, 2, 4, 5, 7, 8, 9, 11, 13, 21, 22, 38]) (hk := [[2040], [2040], [2040], [], [], [], [], [2040], [2040], [2040], [], [], [], [], [], [], [], [], [], [], [], [], [], [], [], [], [], [], [], [], [], [], [], [], [], [], [], [], [], [], []]) (by kernel_rfl) fun K hK => ?_
    simp only [go_sem, Nat.reduceAdd, Nat.reduceLT, Nat.reduceLeDiff, Nat.reduceEqDiff, Nat.reduceSub, Nat.reduceMul, Nat.reduceBEq, Nat.reduceBNe, Nat.reducePow, Nat.reduceDiv, Int.reduceLE, Int.reduceLT, Int.reduceToNat, Int.reduceNeg, Int.reduceAdd, Int.reduceSub, Int.reduceEq, reduceIte, reduceCtorEq, UInt8.reduceOfNat, sgM3, hT, hd6, hd7, Tr_fls, Tr_aps, un_fls, un_aps, hS]
    repeat refine And.intro (by first | omega | assumption | (simp; done) | (simp; omega) | (simp +contextual; done) | (simp_all; done) | (simp_all; omega)) ?_
    refine hK _ ?_
    clear hK K
    refine WA.retE ty_ok (xs := [.lit (.bool true)]) (ls' := []) (rv := [.tmp 6]) rfl hX (by decide) (fun _ => rfl) (fun _ _ h => h) ?_
    simp only [go_sem, Nat.reduceAdd, Nat.reduceLT, Nat.reduceLeDiff, Nat.reduceEqDiff, Nat.reduceSub, Nat.reduceMul, Nat.reduceBEq, Nat.reduceBNe, Nat.reducePow, Nat.reduceDiv, Int.reduceLE, Int.reduceLT, Int.reduceToNat, Int.reduceNeg, Int.reduceAdd, Int.reduceSub, Int.reduceEq, reduceIte, reduceCtorEq, UInt8.reduceOfNat, sbT]
    all_goals simp
theorem made_t (l : List Int) (o n : Int) (hl : ∀ y ∈ l, -9223372036854775808 ≤ y ∧ y ≤ 9223372036854775807) (ho : -9223372036854775808 ≤ o ∧ o ≤ 9223372036854775807) (hn : -9223372036854775808 ≤ n ∧ n ≤ 9223372036854775807) : FnS Try.prog 7 [.li 1 (l.map iA), .lit (.int .i64 o), .lit (.int .i64 n)] [] (.lit (.bool true)) [] := made_s l hl o n
end Go.Proofs.Ytnjmedihheblaaa
