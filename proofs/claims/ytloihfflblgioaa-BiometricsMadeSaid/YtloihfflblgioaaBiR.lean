import Derived.Test.YtloihfflblgioaaBiQ
import Derived.Test.YtloihfflblgioaaBiN
namespace Go.Proofs.Ytloihfflblgioaa
open Go.RowKit Go.TravelBase Go.TravelAbs
set_option linter.unusedVariables false
set_option linter.unusedSimpArgs false

















/-! ### The law BiometricsMade -/
theorem encM_ok (l : List Tm) : okMs 1024 (encN l) ∧ (encN l).length ≤ 1024 := by
  unfold encN
  split
  · rename_i h
    obtain ⟨hl, hv⟩ := enc_val h
    have h2 : ∀ t, valT t = 0 → okM 1024 (objN t) := fun t ht => by
      have := (val0 ht).2.2.2.2
      unfold objN
      rw [okM]
      refine ⟨by simp, (okMs_iff _ _).2 fun n hn => ?_⟩
      simp only [List.mem_cons, List.not_mem_nil, or_false] at hn
      rcases hn with rfl | rfl
      · rw [okM]
        refine ⟨⟨by simp, by rw [headN_len]; omega⟩, (okMs_iff _ _).2 fun n hn => ?_⟩
        obtain ⟨k, hk, rfl⟩ := List.mem_map.1 hn
        have hk : k < 6 := by simpa using hk
        have h3 := (num_oct ht hk).2
        have h4 := fldS_rng k
        rw [okM]
        exact ⟨⟨by omega, by simp⟩, trivial⟩
      · rw [okM]
        exact ⟨⟨by omega, by simp⟩, trivial⟩
    refine ⟨(okMs_iff _ _).2 fun n hn => ?_, by simp⟩
    rw [List.mem_singleton.1 hn, okM]
    refine ⟨⟨by simp, by rw [kidsN_len (Nat.le_refl _)]; omega⟩, (okMs_iff _ _).2 fun n hn => ?_⟩
    unfold kidsN at hn
    rcases List.mem_cons.1 hn with rfl | hn
    · rw [okM]
      exact ⟨by simp, trivial⟩
    · obtain ⟨t, ht, rfl⟩ := List.mem_map.1 hn
      exact h2 t (hv t (List.mem_of_mem_take ht))
  · exact ⟨trivial, by simp⟩
def sgMa : Sg := fun f args ls =>
  match f, args, ls with
  | 20, [.li 1 xs], [] => some (.lit (.bool (decide ((xs.length : Int) ≤ 400))), [], True)
  | 21, [.li 1 xs], [] => some (.fr (.opt true (.li 2 [.agg [.li 1 xs, .lit (.int .i64 0)]])), [], Tr (.li 1 xs) = True)
  | 9, [], [] => some (.lit (.bool true), [], True)
  | 23, [.ptr 0 0 0, .lit (.int .i64 n)], [.li 2 [.agg [L, .lit (.int .i64 z)]]] => some (.lit (.int .i64 (nxI L z n)), [.li 2 [.agg [L, .lit (.int .i64 (nxZ L z))]]], DcOK L z ∧ 1 ≤ n ∧ n ≤ 4611686018427387904)
  | 24, [.ptr 0 0 0, .lit (.int .i64 n)], [.li 2 [.agg [L, .lit (.int .i64 z)]]] => some (.lit (.bool (nxI L z n == n - 1)), [.li 2 [.agg [L, .lit (.int .i64 (nxZ L z))]]], DcOK L z ∧ 1 ≤ n ∧ n ≤ 4611686018427387904)
  | 8, [.li 7 xs], [] => some (.tup [.li 3 (ndsA (encN (xs.map unT))), .lit (.int .i64 (encE (xs.map unT)))], [], xs = (xs.map unT).map tmA)
  | _, _, _ => none
theorem sgMa_ok : SgOK Try.prog sgMa := by
  intro f args ls r ls' vc h hvc
  unfold sgMa at h
  split at h <;> first | (simp only [Option.some.injEq, Prod.mk.injEq] at h; obtain ⟨rfl, rfl, rfl⟩ := h) | cases h
  · exact ⟨(fnOK Try.func20 (by decide) rfl), light_s _⟩
  · exact ⟨(fnOK Try.func21 (by decide) rfl), roll_s _ hvc⟩
  · exact ⟨(fnOK Try.func9 (by decide) rfl), awake_s⟩
  · exact ⟨(fnOK Try.func23 (by decide) rfl), next_s _ _ _ hvc.1 hvc.2.1 hvc.2.2⟩
  · exact ⟨(fnOK Try.func24 (by decide) rfl), one_s _ _ _ hvc.1 hvc.2.1 hvc.2.2⟩
  · rename_i xs
    refine ⟨(fnOK Try.func8 (by decide) rfl), ?_⟩
    have := rencode_s (xs.map unT)
    rw [← hvc] at this
    exact this
def stMa : Sg2 := fun f args ls =>
  match f, args, ls with
  | 22, [.ptr 0 0 0, .lit (.int .i64 k)], [.li 2 [.agg [L, .lit (.int .i64 z)]]] => some ⟨List Tm × Int, fun i => ((1 ≤ i.1.length ∧ i.1.length ≤ 3) ∧ ∀ t ∈ i.1, MadT k t) ∧ DcOK L i.2, fun i => .fr (.li 7 (i.1.map tmA)), fun i => [.li 2 [.agg [L, .lit (.int .i64 i.2)]]], DcOK L z ∧ 1 ≤ k ∧ k ≤ 3⟩
  | 25, [.ptr 0 0 0, .agg [.lit (.int .i64 a), .lit (.int .i64 b), .lit (.int .i64 c), .lit (.int .i64 d), .lit (.int .i64 e), .lit (.int .i64 f), .by_ g]], [.li 2 [.agg [L, .lit (.int .i64 z)]]] => some ⟨Tm × Int, fun i => DcOK L i.2, fun i => .agg [.lit (.int .i64 i.1.kind), .lit (.int .i64 i.1.part), .lit (.int .i64 i.1.fr), .lit (.int .i64 i.1.to), .lit (.int .i64 i.1.fmt), .lit (.int .i64 i.1.q), .by_ i.1.data], fun i => [.li 2 [.agg [L, .lit (.int .i64 i.2)]]], DcOK L z ∧ valT ⟨a, b, c, d, e, f, g⟩ = 0⟩
  | 26, [.ptr 0 0 0, .li 3 xs], [.li 2 [.agg [L, .lit (.int .i64 z)]]] => some ⟨List Nd × Int, fun i => (i.1.length ≤ 1025 ∧ okMs 1025 i.1) ∧ DcOK L i.2, fun i => .li 3 (ndsA i.1), fun i => [.li 2 [.agg [L, .lit (.int .i64 i.2)]]], DcOK L z ∧ xs = ndsA (unNs xs) ∧ (unNs xs).length ≤ 1024 ∧ okMs 1024 (unNs xs)⟩
  | _, _, _ => none
theorem stMa_ok : Sg2OK Try.prog stMa := by
  intro f args ls R h hvc
  unfold stMa at h
  split at h <;> first | (simp only [Option.some.injEq] at h; subst h) | cases h
  · exact ⟨(fnOK Try.func22 (by decide) rfl), dtempls_e _ _ _ hvc.1 hvc.2⟩
  · rename_i a b c d e f g L z
    exact ⟨(fnOK Try.func25 (by decide) rfl), oddt_e L z ⟨a, b, c, d, e, f, g⟩ hvc.1 hvc.2⟩
  · rename_i xs L z
    refine ⟨(fnOK Try.func26 (by decide) rfl), ?_⟩
    have := odd_e 1024 (by omega) _ L z (unNs xs) (Nat.lt_succ_self _) hvc.1 hvc.2.2.1 hvc.2.2.2
    rw [← hvc.2.1] at this
    exact this
def sgMb : Sg := fun f args ls =>
  match f, args, ls with
  | 23, [.ptr 0 0 0, .lit (.int .i64 n)], [.li 2 [.agg [L, .lit (.int .i64 z)]]] => some (.lit (.int .i64 (nxI L z n)), [.li 2 [.agg [L, .lit (.int .i64 (nxZ L z))]]], DcOK L z ∧ 1 ≤ n ∧ n ≤ 4611686018427387904)
  | 4, [.li 7 xs, .lit (.int .i64 k), .lit (.int .i64 d)], [] => some (.lit (.bool true), [], xs = (xs.map unT).map tmA ∧ (xs.map unT).length ≤ 1954687338211)
  | 3, [.li 7 xs, .li 3 ys], [] => some (.lit (.bool true), [], xs = (xs.map unT).map tmA ∧ ys = ndsA (unNs ys) ∧ okNs (unNs ys))
  | _, _, _ => none
theorem sgMb_ok : SgOK Try.prog sgMb := by
  intro f args ls r ls' vc h hvc
  unfold sgMb at h
  split at h <;> first | (simp only [Option.some.injEq, Prod.mk.injEq] at h; obtain ⟨rfl, rfl, rfl⟩ := h) | cases h
  · exact ⟨(fnOK Try.func23 (by decide) rfl), next_s _ _ _ hvc.1 hvc.2.1 hvc.2.2⟩
  · rename_i xs k d
    refine ⟨(fnOK Try.func4 (by decide) rfl), ?_⟩
    have := bvalid_s (xs.map unT) k d hvc.2
    rw [← hvc.1] at this
    exact this
  · rename_i xs ys
    refine ⟨(fnOK Try.func3 (by decide) rfl), ?_⟩
    have := bexact_s (xs.map unT) (unNs ys) hvc.2.2
    rw [← hvc.1, ← hvc.2.1] at this
    exact this
set_option maxHeartbeats 4000000 in
theorem made_s (zs : List Int) (hl : ∀ y ∈ zs, -9223372036854775808 ≤ y ∧ y ≤ 9223372036854775807) : FnS Try.prog 5 [.li 1 (zs.map iA)] [] (.lit (.bool true)) [] := by
  have hs := sgMa_ok
  have ht := stMa_ok
  have hT := Tr_ia zs
  refine FnS.of Try.func5 rfl (N := 51) rfl (by simp) (by simp) fun X hX => ?_
  simp only [tmArgs, lentH, Nat.reduceAdd]
  refine WA.regionK ty_ok hs fun K hK => ?_
  simp only [go_sem, Nat.reduceAdd, Nat.reduceLT, Nat.reduceLeDiff, Nat.reduceEqDiff, Nat.reduceSub, Nat.reduceMul, Nat.reduceBEq, Nat.reduceBNe, Nat.reducePow, Nat.reduceDiv, Int.reduceLE, Int.reduceLT, Int.reduceToNat, Int.reduceNeg, Int.reduceAdd, Int.reduceSub, Int.reduceEq, reduceIte, reduceCtorEq, UInt8.reduceOfNat, true_and]
  repeat refine And.intro (by first | omega | assumption | (simp; done) | (simp; omega) | (simp +contextual; done) | (simp_all; done) | (simp_all; omega)) ?_
  refine hK _ ?_
  clear hK K
  refine WA.seq ?_
  refine WA.regionK ty_ok hs fun K hK => ?_
  simp only [go_sem, Nat.reduceAdd, Nat.reduceLT, Nat.reduceLeDiff, Nat.reduceEqDiff, Nat.reduceSub, Nat.reduceMul, Nat.reduceBEq, Nat.reduceBNe, Nat.reducePow, Nat.reduceDiv, Int.reduceLE, Int.reduceLT, Int.reduceToNat, Int.reduceNeg, Int.reduceAdd, Int.reduceSub, Int.reduceEq, reduceIte, reduceCtorEq, UInt8.reduceOfNat, sgMa]
  repeat refine And.intro (by first | omega | assumption | (simp; done) | (simp; omega) | (simp +contextual; done) | (simp_all; done) | (simp_all; omega)) ?_
  refine hK _ ?_
  clear hK K
  refine WA.cond rfl (fun h => ?_) (fun h => ?_)
  ·
    refine WA.regionK ty_ok hs fun K hK => ?_
    simp only [go_sem, Nat.reduceAdd, Nat.reduceLT, Nat.reduceLeDiff, Nat.reduceEqDiff, Nat.reduceSub, Nat.reduceMul, Nat.reduceBEq, Nat.reduceBNe, Nat.reducePow, Nat.reduceDiv, Int.reduceLE, Int.reduceLT, Int.reduceToNat, Int.reduceNeg, Int.reduceAdd, Int.reduceSub, Int.reduceEq, reduceIte, reduceCtorEq, UInt8.reduceOfNat, sgMa]
    repeat refine And.intro (by first | omega | assumption | (simp; done) | (simp; omega) | (simp +contextual; done) | (simp_all; done) | (simp_all; omega)) ?_
    refine hK _ ?_
    clear hK K
    refine WA.retE ty_ok (xs := [.lit (.bool true)]) (ls' := []) (rv := [.tmp 2]) rfl hX (by decide) (fun _ => rfl) (fun _ _ h => h) ?_
    simp only [go_sem, Nat.reduceAdd, Nat.reduceLT, Nat.reduceLeDiff, Nat.reduceEqDiff, Nat.reduceSub, Nat.reduceMul, Nat.reduceBEq, Nat.reduceBNe, Nat.reducePow, Nat.reduceDiv, Int.reduceLE, Int.reduceLT, Int.reduceToNat, Int.reduceNeg, Int.reduceAdd, Int.reduceSub, Int.reduceEq, reduceIte, reduceCtorEq, UInt8.reduceOfNat, sbT]
    all_goals (first | done | exact Nat.le_refl _ | (simp; done) | (and_intros <;> first | omega | exact Nat.le_refl _ | (simp; done) | (simp; omega)))
  with_reducible refine WA.skipN ?_
  repeat first | with_reducible refine WN.t ?_ | with_reducible refine WN.b ?_
  have h6 : zs.length ≤ 400 := by simp at h; omega
  have hd := dc_roll hl h6
  clear h
  refine WA.regionK ty_ok hs fun K hK => ?_
  simp only [go_sem, Nat.reduceAdd, Nat.reduceLT, Nat.reduceLeDiff, Nat.reduceEqDiff, Nat.reduceSub, Nat.reduceMul, Nat.reduceBEq, Nat.reduceBNe, Nat.reducePow, Nat.reduceDiv, Int.reduceLE, Int.reduceLT, Int.reduceToNat, Int.reduceNeg, Int.reduceAdd, Int.reduceSub, Int.reduceEq, reduceIte, reduceCtorEq, UInt8.reduceOfNat, sgMa, hT]
  repeat refine And.intro (by first | omega | assumption | (simp; done) | (simp; omega) | (simp +contextual; done) | (simp_all; done) | (simp_all; omega)) ?_
  refine hK _ ?_
  clear hK K
  obtain ⟨L, hL⟩ : ∃ L, AV.li 1 (zs.map iA) = L := ⟨_, rfl⟩
  rw [hL] at hd hT ⊢
  have d1 := dc_nx hd
  have r1 := nx_rng L 0 3 (by omega)
  refine WA.regQ ty_ok hs ht fun K hK => ?_
  simp only [go_sem, Nat.reduceAdd, Nat.reduceLT, Nat.reduceLeDiff, Nat.reduceEqDiff, Nat.reduceSub, Nat.reduceMul, Nat.reduceBEq, Nat.reduceBNe, Nat.reducePow, Nat.reduceDiv, Int.reduceLE, Int.reduceLT, Int.reduceToNat, Int.reduceNeg, Int.reduceAdd, Int.reduceSub, Int.reduceEq, reduceIte, reduceCtorEq, UInt8.reduceOfNat, sgMa, stMa, hd, d1, hT, TrC_tms]
  repeat refine And.intro (by first | omega | assumption | (simp; done) | (simp; omega) | (simp +contextual; done) | (simp_all; done) | (simp_all; omega)) ?_
  rintro ⟨l, z1⟩ ⟨⟨⟨l1, l3⟩, hm⟩, d2⟩
  try dsimp only at l1 l3 hm d2
  try dsimp only
  repeat refine And.intro (by first | omega | assumption | (simp; done) | (simp; omega) | (simp +contextual; done) | (simp_all; done) | (simp_all; omega)) ?_
  refine hK _ ?_
  clear hK K
  have d3 := dc_nx d2
  refine WA.join (fun (i : List Tm × Int) => ⟨[(3, .ptr 2040 0 0), (4, .sl 2088 7 0 i.1.length)], [(2040, ⟨.li 2 [.agg [L, .lit (.int .i64 i.2)]], 0, false⟩), (2088, ⟨.li 7 (i.1.map tmA), 0, false⟩)], 3000, 51⟩) (fun i => (1 ≤ i.1.length ∧ i.1.length ≤ 3) ∧ DcOK L i.2) ?_ ?_
  ·
    have g := tm_at (l := l) (i := 0) (by omega)
    have gv : valT l[0] = 0 := (hm _ (List.getElem_mem _)).1
    have gl : (l.map tmA).length = l.length := List.length_map _
    refine WA.regionK ty_ok hs fun K hK => ?_
    simp only [go_sem, Nat.reduceAdd, Nat.reduceLT, Nat.reduceLeDiff, Nat.reduceEqDiff, Nat.reduceSub, Nat.reduceMul, Nat.reduceBEq, Nat.reduceBNe, Nat.reducePow, Nat.reduceDiv, Int.reduceLE, Int.reduceLT, Int.reduceToNat, Int.reduceNeg, Int.reduceAdd, Int.reduceSub, Int.reduceEq, reduceIte, reduceCtorEq, UInt8.reduceOfNat, sgMa, d2, hT]
    repeat refine And.intro (by first | omega | assumption | (simp; done) | (simp; omega) | (simp +contextual; done) | (simp_all; done) | (simp_all; omega)) ?_
    refine hK _ ?_
    clear hK K
    refine WA.cond rfl (fun h => ?_) (fun h => ?_)
    ·
      refine WA.regQE ty_ok hs ht fun K hK => ?_
      simp only [go_sem, Nat.reduceAdd, Nat.reduceLT, Nat.reduceLeDiff, Nat.reduceEqDiff, Nat.reduceSub, Nat.reduceMul, Nat.reduceBEq, Nat.reduceBNe, Nat.reducePow, Nat.reduceDiv, Int.reduceLE, Int.reduceLT, Int.reduceToNat, Int.reduceNeg, Int.reduceAdd, Int.reduceSub, Int.reduceEq, reduceIte, reduceCtorEq, UInt8.reduceOfNat, sgMa, stMa, d3, hT, g, gl, tm_eta, gv]
      repeat refine And.intro (by first | omega | assumption | (simp; done) | (simp; omega) | (simp +contextual; done) | (simp_all; done) | (simp_all; omega)) ?_
      rintro ⟨t, z2⟩ d4
      try dsimp only at d4
      try dsimp only
      repeat refine And.intro (by first | omega | assumption | (simp; done) | (simp; omega) | (simp +contextual; done) | (simp_all; done) | (simp_all; omega)) ?_
      have g3 : (l.map tmA).set 0 (.agg [.lit (.int .i64 t.kind), .lit (.int .i64 t.part), .lit (.int .i64 t.fr), .lit (.int .i64 t.to), .lit (.int .i64 t.fmt), .lit (.int .i64 t.q), .by_ t.data]) = (l.set 0 t).map tmA := by rw [List.map_set]; rfl
      have g4 : (l.set 0 t).length = l.length := List.length_set
      refine hK _ (WN.mk ?_)
      repeat with_reducible refine WN.b ?_
      refine WN.join hX (fun k => k) ((l.set 0 t, z2)) (⟨⟨by simp only [List.length_set]; omega, by simp only [List.length_set]; omega⟩, d4⟩) (by simp only [go_sem, Int.natCast_add, Nat.reduceAdd, Nat.reduceLT, Nat.reduceLeDiff, Nat.reduceEqDiff, Nat.reduceSub, Nat.reduceMul, Nat.reduceBEq, Nat.reduceBNe, Nat.reducePow, Nat.reduceDiv, Int.reduceLE, Int.reduceLT, Int.reduceToNat, Int.reduceNeg, Int.reduceAdd, Int.reduceSub, Int.reduceEq, reduceIte, reduceCtorEq, UInt8.reduceOfNat, hT, TrC_tms, g3, g4, true_or] <;> (try and_intros) <;> (try omega))
    ·
      refine WA.skipN ?_
      repeat with_reducible refine WN.b ?_
      refine WN.join hX (fun k => k) ((l, nxZ L z1)) (⟨⟨l1, l3⟩, d3⟩) (by simp only [go_sem, Int.natCast_add, Nat.reduceAdd, Nat.reduceLT, Nat.reduceLeDiff, Nat.reduceEqDiff, Nat.reduceSub, Nat.reduceMul, Nat.reduceBEq, Nat.reduceBNe, Nat.reducePow, Nat.reduceDiv, Int.reduceLE, Int.reduceLT, Int.reduceToNat, Int.reduceNeg, Int.reduceAdd, Int.reduceSub, Int.reduceEq, reduceIte, reduceCtorEq, UInt8.reduceOfNat, hT, TrC_tms, true_or] <;> (try and_intros) <;> (try omega))
  rintro ⟨m, z4⟩ ⟨⟨m1, m3⟩, d4⟩
  simp only at m1 m3 d4
  have d5 := dc_nx d4
  have g := tm_at (l := m) (i := 0) (by omega)
  have hu2 := un_tms m
  have g5 : (m.map tmA).length = m.length := List.length_map _
  have g6 : List.take m.length (m.map tmA) = m.map tmA := List.take_of_length_le (by simp)
  obtain ⟨w1, w2⟩ := encM_ok m
  have w3 := encN_ok m
  have w4 := un_nds (encN m)
  refine WA.regionK ty_ok hs fun K hK => ?_
  simp only [go_sem, Nat.reduceAdd, Nat.reduceLT, Nat.reduceLeDiff, Nat.reduceEqDiff, Nat.reduceSub, Nat.reduceMul, Nat.reduceBEq, Nat.reduceBNe, Nat.reducePow, Nat.reduceDiv, Int.reduceLE, Int.reduceLT, Int.reduceToNat, Int.reduceNeg, Int.reduceAdd, Int.reduceSub, Int.reduceEq, reduceIte, reduceCtorEq, UInt8.reduceOfNat, sgMa, hu2, g5, g6, TrC_tms, Nat.le_refl, Tr_nds, Tr_tms]
  repeat refine And.intro (by first | omega | assumption | (simp; done) | (simp; omega) | (simp +contextual; done) | (simp_all; done) | (simp_all; omega)) ?_
  refine hK _ ?_
  clear hK K
  refine WA.seq ?_
  refine WA.regionK ty_ok hs fun K hK => ?_
  simp only [go_sem, Nat.reduceAdd, Nat.reduceLT, Nat.reduceLeDiff, Nat.reduceEqDiff, Nat.reduceSub, Nat.reduceMul, Nat.reduceBEq, Nat.reduceBNe, Nat.reducePow, Nat.reduceDiv, Int.reduceLE, Int.reduceLT, Int.reduceToNat, Int.reduceNeg, Int.reduceAdd, Int.reduceSub, Int.reduceEq, reduceIte, reduceCtorEq, UInt8.reduceOfNat, sgMa, d4, hT]
  repeat refine And.intro (by first | omega | assumption | (simp; done) | (simp; omega) | (simp +contextual; done) | (simp_all; done) | (simp_all; omega)) ?_
  refine hK _ ?_
  clear hK K
  refine WA.cond rfl (fun h => ?_) (fun h => ?_)
  ·
    refine WA.regQE ty_ok hs ht fun K hK => ?_
    simp only [go_sem, Nat.reduceAdd, Nat.reduceLT, Nat.reduceLeDiff, Nat.reduceEqDiff, Nat.reduceSub, Nat.reduceMul, Nat.reduceBEq, Nat.reduceBNe, Nat.reducePow, Nat.reduceDiv, Int.reduceLE, Int.reduceLT, Int.reduceToNat, Int.reduceNeg, Int.reduceAdd, Int.reduceSub, Int.reduceEq, reduceIte, reduceCtorEq, UInt8.reduceOfNat, stMa, d5, hT, w4, w1, w2, Tr_nds]
    repeat refine And.intro (by first | omega | assumption | (simp; done) | (simp; omega) | (simp +contextual; done) | (simp_all; done) | (simp_all; omega)) ?_
    rintro ⟨o, z5⟩ ⟨⟨o1, o2⟩, hd5⟩
    try dsimp only at o1 o2 hd5
    try dsimp only
    repeat refine And.intro (by first | omega | assumption | (simp; done) | (simp; omega) | (simp +contextual; done) | (simp_all; done) | (simp_all; omega)) ?_
    with_reducible refine hK _ (WN.mk ?_)
    clear hK K
    repeat first | with_reducible refine WN.t ?_ | with_reducible refine WN.b ?_
    have hs := sgMb_ok
    have hu3 := un_nds o
    have hok : okNs o := (okNs_M (by omega) _ o2)
    have hd9 := hd5
    have q1 := nx_rng L z5 3 (by omega)
    have m9 : m.length ≤ 1954687338211 := by omega
    refine WA.drawnH mixed_ ty_ok hs (tbl := [[], [], [1], [1, 2], [], [4], [4, 5], [4, 5, 6], [0, 1, 2, 3, 4, 5, 6, 7], [0, 1, 2, 3, 4, 5, 6, 7, 8], [0, 1, 2, 3, 4, 5, 6, 7, 8, 9], [0, 1, 2, 3, 4, 5, 6, 7, 8, 9], [0, 1, 2, 3, 4, 5, 6, 7, 8, 9, 10, 11], [0, 1, 2, 3, 4, 5, 6, 7, 8, 9, 10, 11, 12], [0, 1, 2, 3, 4, 5, 6, 7, 8, 9, 10, 11, 12, 13]]) (nb := [2, 7, 8, 12]) (hk := [[2040], [], [], [], [2040], [2040], [2040], [2040], [], [], [], [], [], [], []]) (by kernel_rfl) fun K hK => ?_
    simp only [go_sem, Nat.reduceAdd, Nat.reduceLT, Nat.reduceLeDiff, Nat.reduceEqDiff, Nat.reduceSub, Nat.reduceMul, Nat.reduceBEq, Nat.reduceBNe, Nat.reducePow, Nat.reduceDiv, Int.reduceLE, Int.reduceLT, Int.reduceToNat, Int.reduceNeg, Int.reduceAdd, Int.reduceSub, Int.reduceEq, reduceIte, reduceCtorEq, UInt8.reduceOfNat, sgMb, hd9, hT, hu2, hu3, hok, m9, g, g5, g6, Nat.le_refl, Tr_nds, Tr_tms, TrC_tms]
    repeat refine And.intro (by first | omega | assumption | (simp; done) | (simp; omega) | (simp +contextual; done) | (simp_all; done) | (simp_all; omega)) ?_
    refine hK _ ?_
    clear hK K
    refine WA.retE ty_ok (xs := [.lit (.bool true)]) (ls' := []) (rv := [.tmp 2]) rfl hX (by decide) (fun _ => rfl) (fun _ _ h => h) ?_
    simp only [go_sem, Nat.reduceAdd, Nat.reduceLT, Nat.reduceLeDiff, Nat.reduceEqDiff, Nat.reduceSub, Nat.reduceMul, Nat.reduceBEq, Nat.reduceBNe, Nat.reducePow, Nat.reduceDiv, Int.reduceLE, Int.reduceLT, Int.reduceToNat, Int.reduceNeg, Int.reduceAdd, Int.reduceSub, Int.reduceEq, reduceIte, reduceCtorEq, UInt8.reduceOfNat, sbT]
    all_goals (first | done | exact Nat.le_refl _ | (simp; done) | (and_intros <;> first | omega | exact Nat.le_refl _ | (simp; done) | (simp; omega)))
  ·
    with_reducible refine WA.skipN ?_
    repeat first | with_reducible refine WN.t ?_ | with_reducible refine WN.b ?_
    have hs := sgMb_ok
    have hu3 := un_nds (encN m)
    have hok : okNs (encN m) := w3
    have hd9 := d5
    have q1 := nx_rng L (nxZ L z4) 3 (by omega)
    have m9 : m.length ≤ 1954687338211 := by omega
    refine WA.drawnH mixed_ ty_ok hs (tbl := [[], [], [1], [1, 2], [], [4], [4, 5], [4, 5, 6], [0, 1, 2, 3, 4, 5, 6, 7], [0, 1, 2, 3, 4, 5, 6, 7, 8], [0, 1, 2, 3, 4, 5, 6, 7, 8, 9], [0, 1, 2, 3, 4, 5, 6, 7, 8, 9], [0, 1, 2, 3, 4, 5, 6, 7, 8, 9, 10, 11], [0, 1, 2, 3, 4, 5, 6, 7, 8, 9, 10, 11, 12], [0, 1, 2, 3, 4, 5, 6, 7, 8, 9, 10, 11, 12, 13]]) (nb := [2, 7, 8, 12]) (hk := [[2040], [], [], [], [2040], [2040], [2040], [2040], [], [], [], [], [], [], []]) (by kernel_rfl) fun K hK => ?_
    simp only [go_sem, Nat.reduceAdd, Nat.reduceLT, Nat.reduceLeDiff, Nat.reduceEqDiff, Nat.reduceSub, Nat.reduceMul, Nat.reduceBEq, Nat.reduceBNe, Nat.reducePow, Nat.reduceDiv, Int.reduceLE, Int.reduceLT, Int.reduceToNat, Int.reduceNeg, Int.reduceAdd, Int.reduceSub, Int.reduceEq, reduceIte, reduceCtorEq, UInt8.reduceOfNat, sgMb, hd9, hT, hu2, hu3, hok, m9, g, g5, g6, Nat.le_refl, Tr_nds, Tr_tms, TrC_tms]
    repeat refine And.intro (by first | omega | assumption | (simp; done) | (simp; omega) | (simp +contextual; done) | (simp_all; done) | (simp_all; omega)) ?_
    refine hK _ ?_
    clear hK K
    refine WA.retE ty_ok (xs := [.lit (.bool true)]) (ls' := []) (rv := [.tmp 2]) rfl hX (by decide) (fun _ => rfl) (fun _ _ h => h) ?_
    simp only [go_sem, Nat.reduceAdd, Nat.reduceLT, Nat.reduceLeDiff, Nat.reduceEqDiff, Nat.reduceSub, Nat.reduceMul, Nat.reduceBEq, Nat.reduceBNe, Nat.reducePow, Nat.reduceDiv, Int.reduceLE, Int.reduceLT, Int.reduceToNat, Int.reduceNeg, Int.reduceAdd, Int.reduceSub, Int.reduceEq, reduceIte, reduceCtorEq, UInt8.reduceOfNat, sbT]
    all_goals (first | done | exact Nat.le_refl _ | (simp; done) | (and_intros <;> first | omega | exact Nat.le_refl _ | (simp; done) | (simp; omega)))
def sgRe : Sg := fun f args ls =>
  match f, args, ls with
  | 7, [.li 7 xs], [] => some (.tup [.li 3 (ndsA (encN (xs.map unT))), .lit (.int .i64 (encE (xs.map unT)))], [], xs = (xs.map unT).map tmA)
  | 12, [.li 3 xs], [] => some (.tup [.li 7 ((decV (unNs xs)).map tmA), .lit (.int .i64 (decE (unNs xs)))], [], xs = ndsA (unNs xs) ∧ okNs (unNs xs))
  | 9, [], [] => some (.lit (.bool true), [], True)
  | 18, [.li 7 [.agg [.lit (.int .i64 a), .lit (.int .i64 b), .lit (.int .i64 c), .lit (.int .i64 d), .lit (.int .i64 e), .lit (.int .i64 f), .by_ g]], .lit (.int .i64 k), .lit (.int .i64 y)], [] => some (.li 1 ((usI [⟨a, b, c, d, e, f, g⟩] k y 1).map iA), [], True)
  | 14, [.li 7 xs, .li 7 ys], [] => some (.lit (.bool true), [], ys = xs ∧ xs = (xs.map unT).map tmA)
  | _, _, _ => none
theorem sgRe_ok : SgOK Try.prog sgRe := by
  intro f args ls r ls' vc h hvc
  unfold sgRe at h
  split at h <;> first | (simp only [Option.some.injEq, Prod.mk.injEq] at h; obtain ⟨rfl, rfl, rfl⟩ := h) | cases h
  · rename_i xs
    refine ⟨(fnOK Try.func7 (by decide) rfl), ?_⟩
    have := encode_s (xs.map unT)
    rw [← hvc] at this
    exact this
  · rename_i xs
    refine ⟨(fnOK Try.func12 (by decide) rfl), ?_⟩
    have := decode_s (unNs xs) hvc.2
    rw [← hvc.1] at this
    exact this
  · exact ⟨(fnOK Try.func9 (by decide) rfl), awake_s⟩
  · rename_i a b c d e f g k y
    exact ⟨(fnOK Try.func18 (by decide) rfl), usable_s [⟨a, b, c, d, e, f, g⟩] k y (by simp)⟩
  · rename_i xs ys
    refine ⟨(fnOK Try.func14 (by decide) rfl), ?_⟩
    have := tsame_s (xs.map unT)
    rw [← hvc.2] at this
    rw [hvc.1]
    exact this
theorem us_one (x : Tm) (k y : Int) : usI [x] k y 1 = if useB x k y = true then [0] else [] := by
  simp [usI]
set_option maxHeartbeats 4000000 in
theorem returns_s (zs : List Int) (hl : ∀ y ∈ zs, -9223372036854775808 ≤ y ∧ y ≤ 9223372036854775807) : FnS Try.prog 6 [.li 1 (zs.map iA)] [] (.lit (.bool true)) [] := by
  have hs := sgMa_ok
  have ht := stMa_ok
  have hT := Tr_ia zs
  refine FnS.of Try.func6 rfl (N := 87) rfl (by simp) (by simp) fun X hX => ?_
  simp only [tmArgs, lentH, Nat.reduceAdd]
  refine WA.regionK ty_ok hs fun K hK => ?_
  simp only [go_sem, Nat.reduceAdd, Nat.reduceLT, Nat.reduceLeDiff, Nat.reduceEqDiff, Nat.reduceSub, Nat.reduceMul, Nat.reduceBEq, Nat.reduceBNe, Nat.reducePow, Nat.reduceDiv, Int.reduceLE, Int.reduceLT, Int.reduceToNat, Int.reduceNeg, Int.reduceAdd, Int.reduceSub, Int.reduceEq, reduceIte, reduceCtorEq, UInt8.reduceOfNat, true_and]
  repeat refine And.intro (by first | omega | assumption | (simp; done) | (simp; omega) | (simp +contextual; done) | (simp_all; done) | (simp_all; omega)) ?_
  refine hK _ ?_
  clear hK K
  refine WA.seq ?_
  refine WA.regionK ty_ok hs fun K hK => ?_
  simp only [go_sem, Nat.reduceAdd, Nat.reduceLT, Nat.reduceLeDiff, Nat.reduceEqDiff, Nat.reduceSub, Nat.reduceMul, Nat.reduceBEq, Nat.reduceBNe, Nat.reducePow, Nat.reduceDiv, Int.reduceLE, Int.reduceLT, Int.reduceToNat, Int.reduceNeg, Int.reduceAdd, Int.reduceSub, Int.reduceEq, reduceIte, reduceCtorEq, UInt8.reduceOfNat, sgMa]
  repeat refine And.intro (by first | omega | assumption | (simp; done) | (simp; omega) | (simp +contextual; done) | (simp_all; done) | (simp_all; omega)) ?_
  refine hK _ ?_
  clear hK K
  refine WA.cond rfl (fun h => ?_) (fun h => ?_)
  ·
    refine WA.regionK ty_ok hs fun K hK => ?_
    simp only [go_sem, Nat.reduceAdd, Nat.reduceLT, Nat.reduceLeDiff, Nat.reduceEqDiff, Nat.reduceSub, Nat.reduceMul, Nat.reduceBEq, Nat.reduceBNe, Nat.reducePow, Nat.reduceDiv, Int.reduceLE, Int.reduceLT, Int.reduceToNat, Int.reduceNeg, Int.reduceAdd, Int.reduceSub, Int.reduceEq, reduceIte, reduceCtorEq, UInt8.reduceOfNat, sgMa]
    repeat refine And.intro (by first | omega | assumption | (simp; done) | (simp; omega) | (simp +contextual; done) | (simp_all; done) | (simp_all; omega)) ?_
    refine hK _ ?_
    clear hK K
    refine WA.retE ty_ok (xs := [.lit (.bool true)]) (ls' := []) (rv := [.tmp 2]) rfl hX (by decide) (fun _ => rfl) (fun _ _ h => h) ?_
    simp only [go_sem, Nat.reduceAdd, Nat.reduceLT, Nat.reduceLeDiff, Nat.reduceEqDiff, Nat.reduceSub, Nat.reduceMul, Nat.reduceBEq, Nat.reduceBNe, Nat.reducePow, Nat.reduceDiv, Int.reduceLE, Int.reduceLT, Int.reduceToNat, Int.reduceNeg, Int.reduceAdd, Int.reduceSub, Int.reduceEq, reduceIte, reduceCtorEq, UInt8.reduceOfNat, sbT]
    all_goals (first | done | exact Nat.le_refl _ | (simp; done) | (and_intros <;> first | omega | exact Nat.le_refl _ | (simp; done) | (simp; omega)))
  with_reducible refine WA.skipN ?_
  repeat first | with_reducible refine WN.t ?_ | with_reducible refine WN.b ?_
  have h6 : zs.length ≤ 400 := by simp at h; omega
  have hd := dc_roll hl h6
  clear h
  refine WA.regionK ty_ok hs fun K hK => ?_
  simp only [go_sem, Nat.reduceAdd, Nat.reduceLT, Nat.reduceLeDiff, Nat.reduceEqDiff, Nat.reduceSub, Nat.reduceMul, Nat.reduceBEq, Nat.reduceBNe, Nat.reducePow, Nat.reduceDiv, Int.reduceLE, Int.reduceLT, Int.reduceToNat, Int.reduceNeg, Int.reduceAdd, Int.reduceSub, Int.reduceEq, reduceIte, reduceCtorEq, UInt8.reduceOfNat, sgMa, hT]
  repeat refine And.intro (by first | omega | assumption | (simp; done) | (simp; omega) | (simp +contextual; done) | (simp_all; done) | (simp_all; omega)) ?_
  refine hK _ ?_
  clear hK K
  obtain ⟨L, hL⟩ : ∃ L, AV.li 1 (zs.map iA) = L := ⟨_, rfl⟩
  rw [hL] at hd hT ⊢
  have d1 := dc_nx hd
  have r1 := nx_rng L 0 3 (by omega)
  refine WA.regQ ty_ok hs ht fun K hK => ?_
  simp only [go_sem, Nat.reduceAdd, Nat.reduceLT, Nat.reduceLeDiff, Nat.reduceEqDiff, Nat.reduceSub, Nat.reduceMul, Nat.reduceBEq, Nat.reduceBNe, Nat.reducePow, Nat.reduceDiv, Int.reduceLE, Int.reduceLT, Int.reduceToNat, Int.reduceNeg, Int.reduceAdd, Int.reduceSub, Int.reduceEq, reduceIte, reduceCtorEq, UInt8.reduceOfNat, sgMa, stMa, hd, d1, hT, TrC_tms]
  repeat refine And.intro (by first | omega | assumption | (simp; done) | (simp; omega) | (simp +contextual; done) | (simp_all; done) | (simp_all; omega)) ?_
  rintro ⟨l, z1⟩ ⟨⟨⟨l1, l3⟩, hm⟩, d2⟩
  try dsimp only at l1 l3 hm d2
  try dsimp only
  repeat refine And.intro (by first | omega | assumption | (simp; done) | (simp; omega) | (simp +contextual; done) | (simp_all; done) | (simp_all; omega)) ?_
  refine hK _ ?_
  clear hK K
  have h0 : encE l = 0 := by
    unfold encE
    rw [if_neg (by omega)]
    exact firE_all fun j hj => (hm _ (List.getElem_mem hj)).1
  obtain ⟨c1, c2⟩ := dec_enc h0
  have c3 := encN_ok l
  have c4 := un_nds (encN l)
  have hu := un_tms l
  have g5 : (l.map tmA).length = l.length := List.length_map _
  have g6 : List.take l.length (l.map tmA) = l.map tmA := List.take_of_length_le (by simp)
  have hs := sgRe_ok
  refine WA.regionK ty_ok hs fun K hK => ?_
  simp only [go_sem, Nat.reduceAdd, Nat.reduceLT, Nat.reduceLeDiff, Nat.reduceEqDiff, Nat.reduceSub, Nat.reduceMul, Nat.reduceBEq, Nat.reduceBNe, Nat.reducePow, Nat.reduceDiv, Int.reduceLE, Int.reduceLT, Int.reduceToNat, Int.reduceNeg, Int.reduceAdd, Int.reduceSub, Int.reduceEq, reduceIte, reduceCtorEq, UInt8.reduceOfNat, sgRe, hu, g5, g6, h0, TrC_tms, Tr_tms, Tr_nds, Nat.le_refl]
  repeat refine And.intro (by first | omega | assumption | (simp; done) | (simp; omega) | (simp +contextual; done) | (simp_all; done) | (simp_all; omega)) ?_
  refine hK _ ?_
  clear hK K
  refine WA.regionK ty_ok hs fun K hK => ?_
  simp only [go_sem, Nat.reduceAdd, Nat.reduceLT, Nat.reduceLeDiff, Nat.reduceEqDiff, Nat.reduceSub, Nat.reduceMul, Nat.reduceBEq, Nat.reduceBNe, Nat.reducePow, Nat.reduceDiv, Int.reduceLE, Int.reduceLT, Int.reduceToNat, Int.reduceNeg, Int.reduceAdd, Int.reduceSub, Int.reduceEq, reduceIte, reduceCtorEq, UInt8.reduceOfNat, sgRe, c1, c2, c3, c4, Tr_tms, Tr_nds]
  repeat refine And.intro (by first | omega | assumption | (simp; done) | (simp; omega) | (simp +contextual; done) | (simp_all; done) | (simp_all; omega)) ?_
  refine hK _ ?_
  clear hK K
  obtain ⟨x, hx⟩ : ∃ x, l[0] = x := ⟨_, rfl⟩
  have g := tm_at (l := l) (i := 0) (by omega)
  rw [hx] at g
  have gx : ∀ (l : List Tm) (h : 1 ≤ l.length), l[0] = x → List.take 1 (l.map tmA) = [.agg [.lit (.int .i64 x.kind), .lit (.int .i64 x.part), .lit (.int .i64 x.fr), .lit (.int .i64 x.to), .lit (.int .i64 x.fmt), .lit (.int .i64 x.q), .by_ x.data]] := fun l h e => by
    cases l with
    | nil => simp at h
    | cons a r => simp only [List.getElem_cons_zero] at e; subst e; rfl
  have gx := gx l l1 hx
  have vx : valT x = 0 := by rw [← hx]; exact (hm _ (List.getElem_mem _)).1
  have bx := (val0 vx).2.1
  unfold DayT at bx
  have a1 : decide (x.fr ≤ x.to) = true := decide_eq_true (by omega)
  have a2 : decide (x.to + 1 ≤ x.to) = false := decide_eq_false (by omega)
  have a3 : decide (x.fr ≤ x.fr - 1) = false := decide_eq_false (by omega)
  have a4 : decide (x.fr ≤ x.fr) = true := decide_eq_true (Int.le_refl _)
  have u1 : useB x x.kind x.fr = true := by unfold useB; rw [vx, a1, a4]; simp
  have u2 : useB x x.kind (x.to + 1) = false := by unfold useB; rw [a2]; simp
  have u3 : useB x x.kind (x.fr - 1) = false := by unfold useB; rw [a3]; simp
  have v1 : usI [x] x.kind x.fr 1 = [0] := by rw [us_one, u1]; rfl
  have v2 : usI [x] x.kind (x.to + 1) 1 = [] := by rw [us_one, u2]; rfl
  have v3 : usI [x] x.kind (x.fr - 1) 1 = [] := by rw [us_one, u3]; rfl
  refine WA.regionK ty_ok hs fun K hK => ?_
  simp only [go_sem, Nat.reduceAdd, Nat.reduceLT, Nat.reduceLeDiff, Nat.reduceEqDiff, Nat.reduceSub, Nat.reduceMul, Nat.reduceBEq, Nat.reduceBNe, Nat.reducePow, Nat.reduceDiv, Int.reduceLE, Int.reduceLT, Int.reduceToNat, Int.reduceNeg, Int.reduceAdd, Int.reduceSub, Int.reduceEq, reduceIte, reduceCtorEq, UInt8.reduceOfNat, g, g5]
  repeat refine And.intro (by first | omega | assumption | (simp; done) | (simp; omega) | (simp +contextual; done) | (simp_all; done) | (simp_all; omega)) ?_
  refine hK _ ?_
  clear hK K
  have tI : Tr (.li 1 [iA 0]) = True := Tr_ia [0]
  have l9 : 1 ≤ (l.length : Int) := by omega
  refine WA.drawnK mixed_ ty_ok hs (tbl := [[], [0], [], [2], [], [4], [0, 1, 2, 3, 4, 5], [], [7], [], [9], [], [11], [11, 12], [0, 1, 2, 3, 4, 5, 6, 7, 8, 9, 10, 11, 12, 13], [0, 1, 2, 3, 4, 5, 6, 7, 8, 9, 10, 11, 12, 13, 14], [0, 1, 2, 3, 4, 5, 6, 7, 8, 9, 10, 11, 12, 13, 14, 15]]) (nb := [3, 5, 6, 10, 12, 14]) (by kernel_rfl) fun K hK => ?_
  simp only [go_sem, Nat.reduceAdd, Nat.reduceLT, Nat.reduceLeDiff, Nat.reduceEqDiff, Nat.reduceSub, Nat.reduceMul, Nat.reduceBEq, Nat.reduceBNe, Nat.reducePow, Nat.reduceDiv, Int.reduceLE, Int.reduceLT, Int.reduceToNat, Int.reduceNeg, Int.reduceAdd, Int.reduceSub, Int.reduceEq, reduceIte, reduceCtorEq, UInt8.reduceOfNat, sgRe, g5, g6, gx, tm_eta, v1, v2, TrC_tms, Tr_tms, Tr_ia, tI]
  repeat refine And.intro (by first | omega | assumption | (simp; done) | (simp; omega) | (simp +contextual; done) | (simp_all; done) | (simp_all; omega)) ?_
  refine hK _ ?_
  clear hK K
  refine WA.drawnK mixed_ ty_ok hs (tbl := [[], [0], [0, 1], [0, 1, 2], [0, 1, 2, 3], [0, 1, 2, 3, 4], [0, 1, 2, 3, 4, 5], [0, 1, 2, 3, 4, 5, 6], [0, 1, 2, 3, 4, 5, 6, 7], [0, 1, 2, 3, 4, 5, 6, 7, 8], [0, 1, 2, 3, 4, 5, 6, 7, 8, 9], [0, 1, 2, 3, 4, 5, 6, 7, 8, 9], [0, 1, 2, 3, 4, 5, 6, 7, 8, 9, 10, 11], [0, 1, 2, 3, 4, 5, 6, 7, 8, 9, 10, 11, 12], [0, 1, 2, 3, 4, 5, 6, 7, 8, 9, 10, 11, 12, 13], [0, 1, 2, 3, 4, 5, 6, 7, 8, 9, 10, 11, 12, 13, 14], [0, 1, 2, 3, 4, 5, 6, 7, 8, 9, 10, 11, 12, 13, 14, 15], [0, 1, 2, 3, 4, 5, 6, 7, 8, 9, 10, 11, 12, 13, 14, 15, 16], [0, 1, 2, 3, 4, 5, 6, 7, 8, 9, 10, 11, 12, 13, 14, 15, 16, 17], [0, 1, 2, 3, 4, 5, 6, 7, 8, 9, 10, 11, 12, 13, 14, 15, 16, 17, 18], [0, 1, 2, 3, 4, 5, 6, 7, 8, 9, 10, 11, 12, 13, 14, 15, 16, 17, 18, 19], [0, 1, 2, 3, 4, 5, 6, 7, 8, 9, 10, 11, 12, 13, 14, 15, 16, 17, 18, 19, 20], [0, 1, 2, 3, 4, 5, 6, 7, 8, 9, 10, 11, 12, 13, 14, 15, 16, 17, 18, 19, 20, 21], [0, 1, 2, 3, 4, 5, 6, 7, 8, 9, 10, 11, 12, 13, 14, 15, 16, 17, 18, 19, 20, 21, 22], [0, 1, 2, 3, 4, 5, 6, 7, 8, 9, 10, 11, 12, 13, 14, 15, 16, 17, 18, 19, 20, 21, 22, 23], [0, 1, 2, 3, 4, 5, 6, 7, 8, 9, 10, 11, 12, 13, 14, 15, 16, 17, 18, 19, 20, 21, 22, 23, 24], [0, 1, 2, 3, 4, 5, 6, 7, 8, 9, 10, 11, 12, 13, 14, 15, 16, 17, 18, 19, 20, 21, 22, 23, 24, 25], [0, 1, 2, 3, 4, 5, 6, 7, 8, 9, 10, 11, 12, 13, 14, 15, 16, 17, 18, 19, 20, 21, 22, 23, 24], [0, 1, 2, 3, 4, 5, 6, 7, 8, 9, 10, 11, 12, 13, 14, 15, 16, 17, 18, 19, 20, 21, 22, 23, 24, 27], [0, 1, 2, 3, 4, 5, 6, 7, 8, 9, 10, 11, 12, 13, 14, 15, 16, 17, 18, 19, 20, 21, 22, 23, 24], [0, 1, 2, 3, 4, 5, 6, 7, 8, 9, 10, 11, 12, 13, 14, 15, 16, 17, 18, 19, 20, 21, 22, 23, 24, 29], [0, 1, 2, 3, 4, 5, 6, 7, 8, 9, 10, 11, 12, 13, 14, 15, 16, 17, 18, 19, 20, 21, 22, 23, 24, 29, 30], [0, 1, 2, 3, 4, 5, 6, 7, 8, 9, 10, 11, 12, 13, 14, 15, 16, 17, 18, 19, 20, 21, 22, 23, 24, 25, 26, 27, 28, 29, 30, 31], [0, 1, 2, 3, 4, 5, 6, 7, 8, 9, 10, 11, 12, 13, 14, 15, 16, 17, 18, 19, 20, 21, 22, 23, 24, 25, 26, 27, 28, 29, 30, 31, 32], [0, 1, 2, 3, 4, 5, 6, 7, 8, 9, 10, 11, 12, 13, 14, 15, 16, 17, 18, 19, 20, 21, 22, 23, 24, 25, 26, 27, 28, 29, 30, 31, 32, 33], [0, 1, 2, 3, 4, 5, 6, 7, 8, 9, 10, 11, 12, 13, 14, 15, 16, 17, 18, 19, 20, 21, 22, 23, 24, 25, 26, 27, 28, 29, 30, 31, 32, 33, 34], [0, 1, 2, 3, 4, 5, 6, 7, 8, 9, 10, 11, 12, 13, 14, 15, 16, 17, 18, 19, 20, 21, 22, 23, 24, 25, 26, 27, 28, 29, 30, 31, 32, 33, 34, 35]]) (nb := [0, 12, 28, 30, 32]) (by kernel_rfl) fun K hK => ?_
  simp only [go_sem, Nat.reduceAdd, Nat.reduceLT, Nat.reduceLeDiff, Nat.reduceEqDiff, Nat.reduceSub, Nat.reduceMul, Nat.reduceBEq, Nat.reduceBNe, Nat.reducePow, Nat.reduceDiv, Int.reduceLE, Int.reduceLT, Int.reduceToNat, Int.reduceNeg, Int.reduceAdd, Int.reduceSub, Int.reduceEq, reduceIte, reduceCtorEq, UInt8.reduceOfNat, sgRe, hu, g5, g6, gx, tm_eta, c1, h0, v3, TrC_tms, Tr_tms, Tr_ia, tI, Nat.le_refl]
  repeat refine And.intro (by first | omega | assumption | (simp; done) | (simp; omega) | (simp +contextual; done) | (simp_all; done) | (simp_all; omega)) ?_
  refine hK _ ?_
  clear hK K
  refine WA.retE ty_ok (xs := [.lit (.bool true)]) (ls' := []) (rv := [.tmp 2]) rfl hX (by decide) (fun _ => rfl) (fun _ _ h => h) ?_
  simp only [go_sem, Nat.reduceAdd, Nat.reduceLT, Nat.reduceLeDiff, Nat.reduceEqDiff, Nat.reduceSub, Nat.reduceMul, Nat.reduceBEq, Nat.reduceBNe, Nat.reducePow, Nat.reduceDiv, Int.reduceLE, Int.reduceLT, Int.reduceToNat, Int.reduceNeg, Int.reduceAdd, Int.reduceSub, Int.reduceEq, reduceIte, reduceCtorEq, UInt8.reduceOfNat, sbT]
  all_goals (first | done | exact Nat.le_refl _ | (simp; done) | (and_intros <;> first | omega | exact Nat.le_refl _ | (simp; done) | (simp; omega)))
end Go.Proofs.Ytloihfflblgioaa
