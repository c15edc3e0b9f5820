import Derived.Test.YtjhiagelgleomaaDiceA
import Derived.Test.YtjhiagelgleomaaMemO
namespace Go.Proofs.Ytjhiagelgleomaa
open Go.RowKit Go.TravelBase Go.TravelAbs
set_option linter.unusedVariables false
set_option linter.unusedSimpArgs false











/-! ### slots -/
def stE : Sg2 := fun f args ls =>
  match f, args, ls with
  | 21, [.ptr 0 0 0, .lit (.int .i64 n)], [.li 2 [.agg [L, .lit (.int .i64 z)]]] => some ⟨Int × Int, fun i => (0 ≤ i.1 ∧ i.1 < n) ∧ DcOK L i.2, fun i => .lit (.int .i64 i.1), fun i => [.li 2 [.agg [L, .lit (.int .i64 i.2)]]], DcOK L z ∧ 1 ≤ n ∧ n ≤ 4611686018427387904⟩
  | 20, [.ptr 0 0 0, .lit (.int .i64 n)], [.li 2 [.agg [L, .lit (.int .i64 z)]]] => some ⟨Bool × Int, fun i => DcOK L i.2, fun i => .lit (.bool i.1), fun i => [.li 2 [.agg [L, .lit (.int .i64 i.2)]]], DcOK L z ∧ 1 ≤ n ∧ n ≤ 4611686018427387904⟩
  | _, _, _ => none
theorem stE_ok : Sg2OK Try.prog stE := by
  intro f args ls R h hvc
  unfold stE at h
  split at h <;> first | (simp only [Option.some.injEq] at h; subst h) | cases h
  · rename_i n L z
    exact ⟨fnOK Try.func21 (by decide) rfl, (next_s L z n hvc.1 hvc.2.1 hvc.2.2).toE (i := (nxI L z n, nxZ L z)) ⟨nx_rng L z n hvc.2.1, dc_nx hvc.1⟩ rfl rfl⟩
  · rename_i n L z
    exact ⟨fnOK Try.func20 (by decide) rfl, (one_s L z n hvc.1 hvc.2.1 hvc.2.2).toE (i := (nxI L z n == n - 1, nxZ L z)) (dc_nx hvc.1) rfl rfl⟩
theorem slots_e (L : AV) (z : Int) (hd : DcOK L z) : FnE Try.prog 22 [.ptr 0 0 0] [.li 2 [.agg [L, .lit (.int .i64 z)]]] (I := (List UInt8 × List UInt8) × Int) (fun i => (i.1.1.length ≤ 266 ∧ i.1.2.length ≤ 266) ∧ DcOK L i.2) (fun i => .agg [.by_ i.1.1, .by_ i.1.2]) (fun i => [.li 2 [.agg [L, .lit (.int .i64 i.2)]]]) := by
  have hs := sg0_ok
  have ht := stE_ok
  have hT := hd.tr
  refine FnE.of Try.func22 rfl (N := 74) rfl (by simp) (by simp) fun X hX => ?_
  simp only [tmArgs, lentH, Nat.reduceAdd]
  refine WA.regionK ty_ok hs fun K hK => ?_
  simp only [go_sem, Nat.reduceAdd, Nat.reduceLT, Nat.reduceLeDiff, Nat.reduceEqDiff, Nat.reduceSub, Nat.reduceMul, Nat.reduceBEq, Nat.reduceBNe, Nat.reducePow, Nat.reduceDiv, Int.reduceLE, Int.reduceLT, Int.reduceToNat, Int.reduceNeg, Int.reduceAdd, Int.reduceSub, Int.reduceEq, reduceIte, reduceCtorEq, UInt8.reduceOfNat, sg0]
  first
  | refine hK _ ?_
  | refine And.intro (by first | omega | (simp; done) | (simp; omega) | (simp +contextual; done) | (simp_all; done) | (simp_all; omega)) (hK _ ?_)
  clear hK K
  refine WA.regionK ty_ok hs fun K hK => ?_
  simp only [go_sem, Nat.reduceAdd, Nat.reduceLT, Nat.reduceLeDiff, Nat.reduceEqDiff, Nat.reduceSub, Nat.reduceMul, Nat.reduceBEq, Nat.reduceBNe, Nat.reducePow, Nat.reduceDiv, Int.reduceLE, Int.reduceLT, Int.reduceToNat, Int.reduceNeg, Int.reduceAdd, Int.reduceSub, Int.reduceEq, reduceIte, reduceCtorEq, UInt8.reduceOfNat, sg0]
  first
  | refine hK _ ?_
  | refine And.intro (by first | omega | (simp; done) | (simp; omega) | (simp +contextual; done) | (simp_all; done) | (simp_all; omega)) (hK _ ?_)
  clear hK K
  refine WA.seq ?_
  refine WA.regionK ty_ok hs fun K hK => ?_
  simp only [go_sem, Nat.reduceAdd, Nat.reduceLT, Nat.reduceLeDiff, Nat.reduceEqDiff, Nat.reduceSub, Nat.reduceMul, Nat.reduceBEq, Nat.reduceBNe, Nat.reducePow, Nat.reduceDiv, Int.reduceLE, Int.reduceLT, Int.reduceToNat, Int.reduceNeg, Int.reduceAdd, Int.reduceSub, Int.reduceEq, reduceIte, reduceCtorEq, UInt8.reduceOfNat, sg0]
  first
  | refine hK _ ?_
  | refine And.intro (by first | omega | (simp; done) | (simp; omega) | (simp +contextual; done) | (simp_all; done) | (simp_all; omega)) (hK _ ?_)
  clear hK K
  refine WA.block ?_
  refine WA.loopW hX (fun k => k) ((fun (i : Nat × AV × AV × Int) => ⟨[(0, .ptr 0 0 0), (2, .ptr 2000 0 0), (3, .ptr 2008 0 0), (4, .lit (.int .i64 (i.1 : Nat)))], [(2008, ⟨.li 2 [.agg [i.2.1, i.2.2.1]], 0, false⟩), (2000, ⟨.li 2 [.agg [.lit (.slice none 0 0), .lit (.slice none 0 0)]], 0, false⟩), (0, ⟨.li 2 [.agg [L, .lit (.int .i64 i.2.2.2)]], 0, true⟩)], 3000, 74⟩ : _ → St)) (fun i => 2 - i.1) (fun i => ((i.1 = 0 ∧ i.2.1 = .lit (.slice none 0 0) ∧ i.2.2.1 = .lit (.slice none 0 0)) ∨ (i.1 = 1 ∧ (∃ a : List UInt8, a.length ≤ 266 ∧ i.2.1 = .by_ a) ∧ i.2.2.1 = .lit (.slice none 0 0)) ∨ (i.1 = 2 ∧ (∃ a : List UInt8, a.length ≤ 266 ∧ i.2.1 = .by_ a) ∧ (∃ b : List UInt8, b.length ≤ 266 ∧ i.2.2.1 = .by_ b))) ∧ DcOK L i.2.2.2) (i0 := (0, .lit (.slice none 0 0), .lit (.slice none 0 0), z)) (⟨.inl ⟨rfl, rfl, rfl⟩, hd⟩) (by simp only [go_sem, Int.natCast_add, Nat.reduceAdd, Nat.reduceLT, Nat.reduceLeDiff, Nat.reduceEqDiff, Nat.reduceSub, Nat.reduceMul, Nat.reduceBEq, Nat.reduceBNe, Nat.reducePow, Nat.reduceDiv, Int.reduceLE, Int.reduceLT, Int.reduceToNat, Int.reduceNeg, Int.reduceAdd, Int.reduceSub, Int.reduceEq, reduceIte, reduceCtorEq, UInt8.reduceOfNat, hT] <;> (try and_intros) <;> (try omega)) fun ⟨k, A, B, z⟩ hi => ?_
  dsimp only at hi
  obtain ⟨hi, hd⟩ := hi
  have hk : k ≤ 2 := by omega
  have hA : Tr A = True := by
    rcases hi with ⟨_, rfl, _⟩ | ⟨_, ⟨a, _, rfl⟩, _⟩ | ⟨_, ⟨a, _, rfl⟩, _⟩
    · exact Tr_lit
    · exact Tr_by
    · exact Tr_by
  have hB : Tr B = True := by
    rcases hi with ⟨_, _, rfl⟩ | ⟨_, _, rfl⟩ | ⟨_, _, ⟨a, _, rfl⟩⟩
    · exact Tr_lit
    · exact Tr_lit
    · exact Tr_by
  refine WA.seq ?_
  refine WA.regionK ty_ok hs fun K hK => ?_
  simp only [go_sem, Nat.reduceAdd, Nat.reduceLT, Nat.reduceLeDiff, Nat.reduceEqDiff, Nat.reduceSub, Nat.reduceMul, Nat.reduceBEq, Nat.reduceBNe, Nat.reducePow, Nat.reduceDiv, Int.reduceLE, Int.reduceLT, Int.reduceToNat, Int.reduceNeg, Int.reduceAdd, Int.reduceSub, Int.reduceEq, reduceIte, reduceCtorEq, UInt8.reduceOfNat, sg0]
  first
  | refine hK _ ?_
  | refine And.intro (by first | omega | (simp; done) | (simp; omega) | (simp +contextual; done) | (simp_all; done) | (simp_all; omega)) (hK _ ?_)
  clear hK K
  refine WA.cond rfl (fun h => ?_) (fun h => ?_)
  ·
    with_reducible refine WA.skipN ?_
    repeat first | with_reducible refine WN.t ?_ | with_reducible refine WN.b ?_
    have h6 : k < 2 := by have := of_decide_eq_true h; omega
    clear h
    refine WA.seq ?_
    refine WA.block ?_
    refine WA.regionK ty_ok hs fun K hK => ?_
    simp only [go_sem, Nat.reduceAdd, Nat.reduceLT, Nat.reduceLeDiff, Nat.reduceEqDiff, Nat.reduceSub, Nat.reduceMul, Nat.reduceBEq, Nat.reduceBNe, Nat.reducePow, Nat.reduceDiv, Int.reduceLE, Int.reduceLT, Int.reduceToNat, Int.reduceNeg, Int.reduceAdd, Int.reduceSub, Int.reduceEq, reduceIte, reduceCtorEq, UInt8.reduceOfNat, sg0]
    first
    | refine hK _ ?_
    | refine And.intro (by first | omega | (simp; done) | (simp; omega) | (simp +contextual; done) | (simp_all; done) | (simp_all; omega)) (hK _ ?_)
    clear hK K
    have hl : (List.replicate 265 (0 : UInt8)).length = 265 := List.length_replicate
    generalize List.replicate 265 (0 : UInt8) = bs0 at hl ⊢
    refine WA.regQ ty_ok hs ht fun K hK => ?_
    simp only [go_sem, Nat.reduceAdd, Nat.reduceLT, Nat.reduceLeDiff, Nat.reduceEqDiff, Nat.reduceSub, Nat.reduceMul, Nat.reduceBEq, Nat.reduceBNe, Nat.reducePow, Nat.reduceDiv, Int.reduceLE, Int.reduceLT, Int.reduceToNat, Int.reduceNeg, Int.reduceAdd, Int.reduceSub, Int.reduceEq, reduceIte, reduceCtorEq, UInt8.reduceOfNat, stE, hd, hT, hl]
    and_intros
    all_goals try first | omega | assumption | (simp; done) | (simp; omega)
    rintro ⟨a1, z1⟩ ⟨ha1, hz1⟩
    try dsimp only at ha1 hz1
    try dsimp only
    and_intros
    all_goals try first | omega | assumption | (simp; done) | (simp; omega)
    refine hK _ ?_
    clear hK K
    refine WA.join (fun (i : List UInt8 × Int) => ⟨[(5, .sl 3016 1 0 265), (0, .ptr 0 0 0), (2, .ptr 2000 0 0), (3, .ptr 2008 0 0), (4, .lit (.int .i64 (k : Nat)))], [(3016, ⟨.by_ i.1, 0, false⟩), (2008, ⟨.li 2 [.agg [A, B]], 0, false⟩), (2000, ⟨.li 2 [.agg [.lit (.slice none 0 0), .lit (.slice none 0 0)]], 0, false⟩), (0, ⟨.li 2 [.agg [L, .lit (.int .i64 i.2)]], 0, true⟩)], 4000, 74⟩) (fun i => i.1.length = 265 ∧ DcOK L i.2) ?_ ?_
    ·
      have hl1 : (bs0.set 0 (UInt8.ofNat (IntKind.u8.wrap a1).toNat)).length = 265 := by rw [List.length_set]; exact hl
      generalize bs0.set 0 (UInt8.ofNat (IntKind.u8.wrap a1).toNat) = bs1 at hl1 ⊢
      refine WA.regQ ty_ok hs ht fun K hK => ?_
      simp only [go_sem, Nat.reduceAdd, Nat.reduceLT, Nat.reduceLeDiff, Nat.reduceEqDiff, Nat.reduceSub, Nat.reduceMul, Nat.reduceBEq, Nat.reduceBNe, Nat.reducePow, Nat.reduceDiv, Int.reduceLE, Int.reduceLT, Int.reduceToNat, Int.reduceNeg, Int.reduceAdd, Int.reduceSub, Int.reduceEq, reduceIte, reduceCtorEq, UInt8.reduceOfNat, stE, hz1, hT, hl1]
      and_intros
      all_goals try first | omega | assumption | (simp; done) | (simp; omega)
      rintro ⟨c1, z2⟩ hz2
      try dsimp only at hz2
      try dsimp only
      and_intros
      all_goals try first | omega | assumption | (simp; done) | (simp; omega)
      refine hK _ ?_
      clear hK K
      refine WA.cond rfl (fun h => ?_) (fun h => ?_)
      ·
        refine WA.regionE ty_ok hs fun K hK => ?_
        simp only [go_sem, Nat.reduceAdd, Nat.reduceLT, Nat.reduceLeDiff, Nat.reduceEqDiff, Nat.reduceSub, Nat.reduceMul, Nat.reduceBEq, Nat.reduceBNe, Nat.reducePow, Nat.reduceDiv, Int.reduceLE, Int.reduceLT, Int.reduceToNat, Int.reduceNeg, Int.reduceAdd, Int.reduceSub, Int.reduceEq, reduceIte, reduceCtorEq, UInt8.reduceOfNat, sg0, hl1]
        refine hK _ (joinE hX (fun k => k) ((bs1.set 0 1, z2)) (⟨by simp [hl1], hz2⟩) (by simp only [go_sem, Int.natCast_add, Nat.reduceAdd, Nat.reduceLT, Nat.reduceLeDiff, Nat.reduceEqDiff, Nat.reduceSub, Nat.reduceMul, Nat.reduceBEq, Nat.reduceBNe, Nat.reducePow, Nat.reduceDiv, Int.reduceLE, Int.reduceLT, Int.reduceToNat, Int.reduceNeg, Int.reduceAdd, Int.reduceSub, Int.reduceEq, reduceIte, reduceCtorEq, UInt8.reduceOfNat, hT, hA, hB] <;> (try and_intros) <;> (try omega)))
      ·
        refine WA.skipN (WN.join hX (fun k => k) ((bs1, z2)) (⟨hl1, hz2⟩) (by simp only [go_sem, Int.natCast_add, Nat.reduceAdd, Nat.reduceLT, Nat.reduceLeDiff, Nat.reduceEqDiff, Nat.reduceSub, Nat.reduceMul, Nat.reduceBEq, Nat.reduceBNe, Nat.reducePow, Nat.reduceDiv, Int.reduceLE, Int.reduceLT, Int.reduceToNat, Int.reduceNeg, Int.reduceAdd, Int.reduceSub, Int.reduceEq, reduceIte, reduceCtorEq, UInt8.reduceOfNat, hT, hA, hB] <;> (try and_intros) <;> (try omega)))
    rintro ⟨bs2, z2⟩ ⟨hl2, hz2⟩
    dsimp only at hl2 hz2
    refine WA.regQ ty_ok hs ht fun K hK => ?_
    simp only [go_sem, Nat.reduceAdd, Nat.reduceLT, Nat.reduceLeDiff, Nat.reduceEqDiff, Nat.reduceSub, Nat.reduceMul, Nat.reduceBEq, Nat.reduceBNe, Nat.reducePow, Nat.reduceDiv, Int.reduceLE, Int.reduceLT, Int.reduceToNat, Int.reduceNeg, Int.reduceAdd, Int.reduceSub, Int.reduceEq, reduceIte, reduceCtorEq, UInt8.reduceOfNat, stE, hz2, hT]
    and_intros
    all_goals try first | omega | assumption | (simp; done) | (simp; omega)
    rintro ⟨n, z3⟩ ⟨hn, hz3⟩
    try dsimp only at hn hz3
    try dsimp only
    and_intros
    all_goals try first | omega | assumption | (simp; done) | (simp; omega)
    refine hK _ ?_
    clear hK K
    refine WA.seq ?_
    refine WA.regionK ty_ok hs fun K hK => ?_
    simp only [go_sem, Nat.reduceAdd, Nat.reduceLT, Nat.reduceLeDiff, Nat.reduceEqDiff, Nat.reduceSub, Nat.reduceMul, Nat.reduceBEq, Nat.reduceBNe, Nat.reducePow, Nat.reduceDiv, Int.reduceLE, Int.reduceLT, Int.reduceToNat, Int.reduceNeg, Int.reduceAdd, Int.reduceSub, Int.reduceEq, reduceIte, reduceCtorEq, UInt8.reduceOfNat, sg0]
    first
    | refine hK _ ?_
    | refine And.intro (by first | omega | (simp; done) | (simp; omega) | (simp +contextual; done) | (simp_all; done) | (simp_all; omega)) (hK _ ?_)
    clear hK K
    refine WA.block ?_
    refine WA.loopW hX (fun k => k) ((fun (i : List UInt8 × Nat) => ⟨[(5, .sl 3016 1 0 265), (6, .lit (.int .i64 n)), (7, .lit (.int .i64 (i.2 : Nat))), (0, .ptr 0 0 0), (2, .ptr 2000 0 0), (3, .ptr 2008 0 0), (4, .lit (.int .i64 (k : Nat)))], [(3016, ⟨.by_ i.1, 0, false⟩), (2008, ⟨.li 2 [.agg [A, B]], 0, false⟩), (2000, ⟨.li 2 [.agg [.lit (.slice none 0 0), .lit (.slice none 0 0)]], 0, false⟩), (0, ⟨.li 2 [.agg [L, .lit (.int .i64 z3)]], 0, true⟩)], 5000, 74⟩ : _ → St)) (fun i => 7 - i.2) (fun i => i.1.length = 265 ∧ 1 ≤ i.2 ∧ i.2 ≤ 7) (i0 := (bs2, 1)) (⟨hl2, by simp⟩) (by simp only [go_sem, Int.natCast_add, Nat.reduceAdd, Nat.reduceLT, Nat.reduceLeDiff, Nat.reduceEqDiff, Nat.reduceSub, Nat.reduceMul, Nat.reduceBEq, Nat.reduceBNe, Nat.reducePow, Nat.reduceDiv, Int.reduceLE, Int.reduceLT, Int.reduceToNat, Int.reduceNeg, Int.reduceAdd, Int.reduceSub, Int.reduceEq, reduceIte, reduceCtorEq, UInt8.reduceOfNat, hT, hA, hB] <;> (try and_intros) <;> (try omega)) fun ⟨bs, i⟩ hi2 => ?_
    dsimp only at hi2
    obtain ⟨hl3, hi2, hi3⟩ := hi2
    refine WA.seq ?_
    refine WA.regionK ty_ok hs fun K hK => ?_
    simp only [go_sem, Nat.reduceAdd, Nat.reduceLT, Nat.reduceLeDiff, Nat.reduceEqDiff, Nat.reduceSub, Nat.reduceMul, Nat.reduceBEq, Nat.reduceBNe, Nat.reducePow, Nat.reduceDiv, Int.reduceLE, Int.reduceLT, Int.reduceToNat, Int.reduceNeg, Int.reduceAdd, Int.reduceSub, Int.reduceEq, reduceIte, reduceCtorEq, UInt8.reduceOfNat, sg0]
    first
    | refine hK _ ?_
    | refine And.intro (by first | omega | (simp; done) | (simp; omega) | (simp +contextual; done) | (simp_all; done) | (simp_all; omega)) (hK _ ?_)
    clear hK K
    refine WA.cond rfl (fun h => ?_) (fun h => ?_)
    ·
      with_reducible refine WA.skipN ?_
      repeat first | with_reducible refine WN.t ?_ | with_reducible refine WN.b ?_
      have h7 : i < 7 := by have := of_decide_eq_true h; omega
      clear h
      refine WA.seq ?_
      refine WA.block ?_
      refine WA.regionK ty_ok hs fun K hK => ?_
      simp only [go_sem, Nat.reduceAdd, Nat.reduceLT, Nat.reduceLeDiff, Nat.reduceEqDiff, Nat.reduceSub, Nat.reduceMul, Nat.reduceBEq, Nat.reduceBNe, Nat.reducePow, Nat.reduceDiv, Int.reduceLE, Int.reduceLT, Int.reduceToNat, Int.reduceNeg, Int.reduceAdd, Int.reduceSub, Int.reduceEq, reduceIte, reduceCtorEq, UInt8.reduceOfNat, sg0, hl3]
      first
      | refine hK _ ?_
      | refine And.intro (by first | omega | (simp; done) | (simp; omega) | (simp +contextual; done) | (simp_all; done) | (simp_all; omega)) (hK _ ?_)
      clear hK K
      refine WA.regionK ty_ok hs fun K hK => ?_
      simp only [go_sem, Nat.reduceAdd, Nat.reduceLT, Nat.reduceLeDiff, Nat.reduceEqDiff, Nat.reduceSub, Nat.reduceMul, Nat.reduceBEq, Nat.reduceBNe, Nat.reducePow, Nat.reduceDiv, Int.reduceLE, Int.reduceLT, Int.reduceToNat, Int.reduceNeg, Int.reduceAdd, Int.reduceSub, Int.reduceEq, reduceIte, reduceCtorEq, UInt8.reduceOfNat, sg0, hl3]
      first
      | refine hK _ ?_
      | refine And.intro (by first | omega | (simp; done) | (simp; omega) | (simp +contextual; done) | (simp_all; done) | (simp_all; omega)) (hK _ ?_)
      clear hK K
      refine WA.cond rfl (fun h => ?_) (fun h => ?_)
      ·
        refine WA.regionE ty_ok hs fun K hK => ?_
        simp only [go_sem, Nat.reduceAdd, Nat.reduceLT, Nat.reduceLeDiff, Nat.reduceEqDiff, Nat.reduceSub, Nat.reduceMul, Nat.reduceBEq, Nat.reduceBNe, Nat.reducePow, Nat.reduceDiv, Int.reduceLE, Int.reduceLT, Int.reduceToNat, Int.reduceNeg, Int.reduceAdd, Int.reduceSub, Int.reduceEq, reduceIte, reduceCtorEq, UInt8.reduceOfNat, sg0, hl3]
        and_intros
        all_goals try omega
        with_reducible refine hK _ (WN.mk ?_)
        clear hK K
        repeat first | with_reducible refine WN.t ?_ | with_reducible refine WN.b ?_
        refine WA.regionE ty_ok hs fun K hK => ?_
        simp only [go_sem, Nat.reduceAdd, Nat.reduceLT, Nat.reduceLeDiff, Nat.reduceEqDiff, Nat.reduceSub, Nat.reduceMul, Nat.reduceBEq, Nat.reduceBNe, Nat.reducePow, Nat.reduceDiv, Int.reduceLE, Int.reduceLT, Int.reduceToNat, Int.reduceNeg, Int.reduceAdd, Int.reduceSub, Int.reduceEq, reduceIte, reduceCtorEq, UInt8.reduceOfNat, sg0]
        and_intros
        all_goals try omega
        refine hK _ (roundE hX (fun k => k) (j := ((bs.set i (UInt8.ofNat (IntKind.u8.wrap n).toNat)).set i 255, i + 1)) (⟨by simp [hl3], by omega, by omega⟩) (by first | omega | (dsimp only; omega) | (simp; omega)) (by simp only [go_sem, Int.natCast_add, Nat.reduceAdd, Nat.reduceLT, Nat.reduceLeDiff, Nat.reduceEqDiff, Nat.reduceSub, Nat.reduceMul, Nat.reduceBEq, Nat.reduceBNe, Nat.reducePow, Nat.reduceDiv, Int.reduceLE, Int.reduceLT, Int.reduceToNat, Int.reduceNeg, Int.reduceAdd, Int.reduceSub, Int.reduceEq, reduceIte, reduceCtorEq, UInt8.reduceOfNat, hT, hA, hB] <;> (try and_intros) <;> (try omega)))
      ·
        with_reducible refine WA.skipN ?_
        repeat first | with_reducible refine WN.t ?_ | with_reducible refine WN.b ?_
        refine WA.regionE ty_ok hs fun K hK => ?_
        simp only [go_sem, Nat.reduceAdd, Nat.reduceLT, Nat.reduceLeDiff, Nat.reduceEqDiff, Nat.reduceSub, Nat.reduceMul, Nat.reduceBEq, Nat.reduceBNe, Nat.reducePow, Nat.reduceDiv, Int.reduceLE, Int.reduceLT, Int.reduceToNat, Int.reduceNeg, Int.reduceAdd, Int.reduceSub, Int.reduceEq, reduceIte, reduceCtorEq, UInt8.reduceOfNat, sg0]
        and_intros
        all_goals try omega
        refine hK _ (roundE hX (fun k => k) (j := (bs.set i (UInt8.ofNat (IntKind.u8.wrap n).toNat), i + 1)) (⟨by simp [hl3], by omega, by omega⟩) (by first | omega | (dsimp only; omega) | (simp; omega)) (by simp only [go_sem, Int.natCast_add, Nat.reduceAdd, Nat.reduceLT, Nat.reduceLeDiff, Nat.reduceEqDiff, Nat.reduceSub, Nat.reduceMul, Nat.reduceBEq, Nat.reduceBNe, Nat.reducePow, Nat.reduceDiv, Int.reduceLE, Int.reduceLT, Int.reduceToNat, Int.reduceNeg, Int.reduceAdd, Int.reduceSub, Int.reduceEq, reduceIte, reduceCtorEq, UInt8.reduceOfNat, hT, hA, hB] <;> (try and_intros) <;> (try omega)))
    ·
      with_reducible refine WA.exitX ?_
      repeat first | with_reducible refine WX.b ?_ | with_reducible refine WX.t ?_ | (with_reducible refine WX.n ?hne ?_; case hne => rfl)
      refine WA.regQ ty_ok hs ht fun K hK => ?_
      simp only [go_sem, Nat.reduceAdd, Nat.reduceLT, Nat.reduceLeDiff, Nat.reduceEqDiff, Nat.reduceSub, Nat.reduceMul, Nat.reduceBEq, Nat.reduceBNe, Nat.reducePow, Nat.reduceDiv, Int.reduceLE, Int.reduceLT, Int.reduceToNat, Int.reduceNeg, Int.reduceAdd, Int.reduceSub, Int.reduceEq, reduceIte, reduceCtorEq, UInt8.reduceOfNat, stE, hz3, hT, hl3]
      and_intros
      all_goals try first | omega | assumption | (simp; done) | (simp; omega)
      rintro ⟨c1, z4⟩ ⟨hc1, hz4⟩
      try dsimp only at hc1 hz4
      try dsimp only
      and_intros
      all_goals try first | omega | assumption | (simp; done) | (simp; omega)
      rintro ⟨c2, z5⟩ ⟨hc2, hz5⟩
      try dsimp only at hc2 hz5
      try dsimp only
      and_intros
      all_goals try first | omega | assumption | (simp; done) | (simp; omega)
      refine hK _ ?_
      clear hK K
      have hl4 : ((bs.set 7 (UInt8.ofNat (IntKind.u8.wrap c1).toNat)).set 8 (UInt8.ofNat (IntKind.u8.wrap c2).toNat)).length = 265 := by simp [hl3]
      generalize (bs.set 7 (UInt8.ofNat (IntKind.u8.wrap c1).toNat)).set 8 (UInt8.ofNat (IntKind.u8.wrap c2).toNat) = bs4 at hl4 ⊢
      refine WA.regQ ty_ok hs ht fun K hK => ?_
      simp only [go_sem, Nat.reduceAdd, Nat.reduceLT, Nat.reduceLeDiff, Nat.reduceEqDiff, Nat.reduceSub, Nat.reduceMul, Nat.reduceBEq, Nat.reduceBNe, Nat.reducePow, Nat.reduceDiv, Int.reduceLE, Int.reduceLT, Int.reduceToNat, Int.reduceNeg, Int.reduceAdd, Int.reduceSub, Int.reduceEq, reduceIte, reduceCtorEq, UInt8.reduceOfNat, stE, hz5, hT, hl4]
      and_intros
      all_goals try first | omega | assumption | (simp; done) | (simp; omega)
      rintro ⟨c3, z6⟩ ⟨hc3, hz6⟩
      try dsimp only at hc3 hz6
      try dsimp only
      and_intros
      all_goals try first | omega | assumption | (simp; done) | (simp; omega)
      rintro ⟨c4, z7⟩ ⟨hc4, hz7⟩
      try dsimp only at hc4 hz7
      try dsimp only
      and_intros
      all_goals try first | omega | assumption | (simp; done) | (simp; omega)
      refine hK _ ?_
      clear hK K
      have hl5 : (bs4.set (9 + c3).toNat (UInt8.ofNat (IntKind.u8.wrap c4).toNat)).length = 265 := by simp [hl4]
      generalize bs4.set (9 + c3).toNat (UInt8.ofNat (IntKind.u8.wrap c4).toNat) = bs5 at hl5 ⊢
      refine WA.join (fun (i : List UInt8 × Int) => ⟨[(5, .sl 6000 1 0 i.1.length), (0, .ptr 0 0 0), (2, .ptr 2000 0 0), (3, .ptr 2008 0 0), (4, .lit (.int .i64 (k : Nat)))], [(6000, ⟨.by_ i.1, 0, false⟩), (2008, ⟨.li 2 [.agg [A, B]], 0, false⟩), (2000, ⟨.li 2 [.agg [.lit (.slice none 0 0), .lit (.slice none 0 0)]], 0, false⟩), (0, ⟨.li 2 [.agg [L, .lit (.int .i64 i.2)]], 0, true⟩)], 7000, 74⟩) (fun i => (265 ≤ i.1.length ∧ i.1.length ≤ 266) ∧ DcOK L i.2) ?_ ?_
      ·
        refine WA.regQ ty_ok hs ht fun K hK => ?_
        simp only [go_sem, Nat.reduceAdd, Nat.reduceLT, Nat.reduceLeDiff, Nat.reduceEqDiff, Nat.reduceSub, Nat.reduceMul, Nat.reduceBEq, Nat.reduceBNe, Nat.reducePow, Nat.reduceDiv, Int.reduceLE, Int.reduceLT, Int.reduceToNat, Int.reduceNeg, Int.reduceAdd, Int.reduceSub, Int.reduceEq, reduceIte, reduceCtorEq, UInt8.reduceOfNat, stE, hz7, hT, hl5]
        and_intros
        all_goals try first | omega | assumption | (simp; done) | (simp; omega)
        rintro ⟨c5, z8⟩ hz8
        try dsimp only at hz8
        try dsimp only
        and_intros
        all_goals try first | omega | assumption | (simp; done) | (simp; omega)
        refine hK _ ?_
        clear hK K
        refine WA.cond rfl (fun h => ?_) (fun h => ?_)
        ·
          refine WA.regionE ty_ok hs fun K hK => ?_
          simp only [go_sem, Nat.reduceAdd, Nat.reduceLT, Nat.reduceLeDiff, Nat.reduceEqDiff, Nat.reduceSub, Nat.reduceMul, Nat.reduceBEq, Nat.reduceBNe, Nat.reducePow, Nat.reduceDiv, Int.reduceLE, Int.reduceLT, Int.reduceToNat, Int.reduceNeg, Int.reduceAdd, Int.reduceSub, Int.reduceEq, reduceIte, reduceCtorEq, UInt8.reduceOfNat, sg0, hl5]
          refine hK _ (joinE hX (fun k => if k = 6000 then 5216 else k) ((bs5 ++ [0], z8)) (⟨⟨by simp [hl5], by simp [hl5]⟩, hz8⟩) (by simp only [go_sem, Int.natCast_add, Nat.reduceAdd, Nat.reduceLT, Nat.reduceLeDiff, Nat.reduceEqDiff, Nat.reduceSub, Nat.reduceMul, Nat.reduceBEq, Nat.reduceBNe, Nat.reducePow, Nat.reduceDiv, Int.reduceLE, Int.reduceLT, Int.reduceToNat, Int.reduceNeg, Int.reduceAdd, Int.reduceSub, Int.reduceEq, reduceIte, reduceCtorEq, UInt8.reduceOfNat, hT, hA, hB, hl5] <;> (try and_intros) <;> (try omega)))
        ·
          refine WA.skipN (WN.join hX (fun k => if k = 6000 then 3016 else k) ((bs5, z8)) (⟨⟨by show 265 ≤ bs5.length; omega, by show bs5.length ≤ 266; omega⟩, hz8⟩) (by simp only [go_sem, Int.natCast_add, Nat.reduceAdd, Nat.reduceLT, Nat.reduceLeDiff, Nat.reduceEqDiff, Nat.reduceSub, Nat.reduceMul, Nat.reduceBEq, Nat.reduceBNe, Nat.reducePow, Nat.reduceDiv, Int.reduceLE, Int.reduceLT, Int.reduceToNat, Int.reduceNeg, Int.reduceAdd, Int.reduceSub, Int.reduceEq, reduceIte, reduceCtorEq, UInt8.reduceOfNat, hT, hA, hB, hl5] <;> (try and_intros) <;> (try omega)))
      rintro ⟨bs6, z8⟩ ⟨⟨hl6, hl7⟩, hz8⟩
      dsimp only at hl6 hl7 hz8
      refine WA.join (fun (i : List UInt8 × Nat × Int) => ⟨[(5, .sl 6000 1 0 i.2.1), (0, .ptr 0 0 0), (2, .ptr 2000 0 0), (3, .ptr 2008 0 0), (4, .lit (.int .i64 (k : Nat)))], [(6000, ⟨.by_ i.1, 0, false⟩), (2008, ⟨.li 2 [.agg [A, B]], 0, false⟩), (2000, ⟨.li 2 [.agg [.lit (.slice none 0 0), .lit (.slice none 0 0)]], 0, false⟩), (0, ⟨.li 2 [.agg [L, .lit (.int .i64 i.2.2)]], 0, true⟩)], 8000, 74⟩) (fun i => (i.1.length ≤ 266 ∧ i.2.1 ≤ i.1.length) ∧ DcOK L i.2.2) ?_ ?_
      ·
        refine WA.regQ ty_ok hs ht fun K hK => ?_
        simp only [go_sem, Nat.reduceAdd, Nat.reduceLT, Nat.reduceLeDiff, Nat.reduceEqDiff, Nat.reduceSub, Nat.reduceMul, Nat.reduceBEq, Nat.reduceBNe, Nat.reducePow, Nat.reduceDiv, Int.reduceLE, Int.reduceLT, Int.reduceToNat, Int.reduceNeg, Int.reduceAdd, Int.reduceSub, Int.reduceEq, reduceIte, reduceCtorEq, UInt8.reduceOfNat, stE, hz8, hT]
        and_intros
        all_goals try first | omega | assumption | (simp; done) | (simp; omega)
        rintro ⟨c6, z9⟩ hz9
        try dsimp only at hz9
        try dsimp only
        and_intros
        all_goals try first | omega | assumption | (simp; done) | (simp; omega)
        refine hK _ ?_
        clear hK K
        refine WA.cond rfl (fun h => ?_) (fun h => ?_)
        ·
          refine WA.regQE ty_ok hs ht fun K hK => ?_
          simp only [go_sem, Nat.reduceAdd, Nat.reduceLT, Nat.reduceLeDiff, Nat.reduceEqDiff, Nat.reduceSub, Nat.reduceMul, Nat.reduceBEq, Nat.reduceBNe, Nat.reducePow, Nat.reduceDiv, Int.reduceLE, Int.reduceLT, Int.reduceToNat, Int.reduceNeg, Int.reduceAdd, Int.reduceSub, Int.reduceEq, reduceIte, reduceCtorEq, UInt8.reduceOfNat, stE, hz9, hT, hl6]
          and_intros
          all_goals try first | omega | assumption | (simp; done) | (simp; omega)
          rintro ⟨c7, z10⟩ ⟨hc7, hz10⟩
          try dsimp only at hc7 hz10
          try dsimp only
          and_intros
          all_goals try omega
          refine hK _ (joinE hX (fun k => k) ((bs6, c7.toNat, z10)) (⟨⟨hl7, by show c7.toNat ≤ bs6.length; omega⟩, hz10⟩) (by simp only [go_sem, Int.natCast_add, Nat.reduceAdd, Nat.reduceLT, Nat.reduceLeDiff, Nat.reduceEqDiff, Nat.reduceSub, Nat.reduceMul, Nat.reduceBEq, Nat.reduceBNe, Nat.reducePow, Nat.reduceDiv, Int.reduceLE, Int.reduceLT, Int.reduceToNat, Int.reduceNeg, Int.reduceAdd, Int.reduceSub, Int.reduceEq, reduceIte, reduceCtorEq, UInt8.reduceOfNat, hT, hA, hB] <;> (try and_intros) <;> (try omega)))
        ·
          refine WA.skipN (WN.join hX (fun k => k) ((bs6, bs6.length, z9)) (⟨⟨hl7, Nat.le_refl _⟩, hz9⟩) (by simp only [go_sem, Int.natCast_add, Nat.reduceAdd, Nat.reduceLT, Nat.reduceLeDiff, Nat.reduceEqDiff, Nat.reduceSub, Nat.reduceMul, Nat.reduceBEq, Nat.reduceBNe, Nat.reducePow, Nat.reduceDiv, Int.reduceLE, Int.reduceLT, Int.reduceToNat, Int.reduceNeg, Int.reduceAdd, Int.reduceSub, Int.reduceEq, reduceIte, reduceCtorEq, UInt8.reduceOfNat, hT, hA, hB] <;> (try and_intros) <;> (try omega)))
      rintro ⟨bs7, nn, z9⟩ ⟨⟨hl8, hl9⟩, hz9⟩
      dsimp only at hl8 hl9 hz9
      have hk01 : k = 0 ∨ k = 1 := by omega
      have ht9 : (bs7.take nn).length ≤ 266 := by rw [List.length_take]; omega
      rcases hi with ⟨rfl, rfl, rfl⟩ | ⟨rfl, ⟨a, ha, rfl⟩, rfl⟩ | ⟨rfl, _⟩
      ·
        refine WA.regionE ty_ok hs fun K hK => ?_
        simp only [go_sem, Nat.reduceAdd, Nat.reduceLT, Nat.reduceLeDiff, Nat.reduceEqDiff, Nat.reduceSub, Nat.reduceMul, Nat.reduceBEq, Nat.reduceBNe, Nat.reducePow, Nat.reduceDiv, Int.reduceLE, Int.reduceLT, Int.reduceToNat, Int.reduceNeg, Int.reduceAdd, Int.reduceSub, Int.reduceEq, reduceIte, reduceCtorEq, UInt8.reduceOfNat, sg0]
        with_reducible refine hK _ (WN.mk ?_)
        clear hK K
        repeat first | with_reducible refine WN.t ?_ | with_reducible refine WN.b ?_
        refine WA.norm 2008 fun K hK => ?_
        simp only [go_sem, Nat.reduceAdd, Nat.reduceLT, Nat.reduceLeDiff, Nat.reduceEqDiff, Nat.reduceSub, Nat.reduceMul, Nat.reduceBEq, Nat.reduceBNe, Nat.reducePow, Nat.reduceDiv, Int.reduceLE, Int.reduceLT, Int.reduceToNat, Int.reduceNeg, Int.reduceAdd, Int.reduceSub, Int.reduceEq, reduceIte, reduceCtorEq, UInt8.reduceOfNat, hl9]
        first
        | refine hK _ ?_
        | refine And.intro (by first | omega | (simp; done) | (simp; omega) | (simp_all; done) | (simp_all; omega)) (hK _ ?_)
        clear hK K
        refine WA.regionE ty_ok hs fun K hK => ?_
        simp only [go_sem, Nat.reduceAdd, Nat.reduceLT, Nat.reduceLeDiff, Nat.reduceEqDiff, Nat.reduceSub, Nat.reduceMul, Nat.reduceBEq, Nat.reduceBNe, Nat.reducePow, Nat.reduceDiv, Int.reduceLE, Int.reduceLT, Int.reduceToNat, Int.reduceNeg, Int.reduceAdd, Int.reduceSub, Int.reduceEq, reduceIte, reduceCtorEq, UInt8.reduceOfNat, sg0]
        and_intros
        all_goals try omega
        refine hK _ (roundE hX (fun k => k) (j := (1, .by_ (bs7.take nn), .lit (.slice none 0 0), z9)) (⟨.inr (.inl ⟨rfl, ⟨_, ht9, rfl⟩, rfl⟩), hz9⟩) (by first | omega | (dsimp only; omega) | (simp; omega)) (by simp only [go_sem, Int.natCast_add, Nat.reduceAdd, Nat.reduceLT, Nat.reduceLeDiff, Nat.reduceEqDiff, Nat.reduceSub, Nat.reduceMul, Nat.reduceBEq, Nat.reduceBNe, Nat.reducePow, Nat.reduceDiv, Int.reduceLE, Int.reduceLT, Int.reduceToNat, Int.reduceNeg, Int.reduceAdd, Int.reduceSub, Int.reduceEq, reduceIte, reduceCtorEq, UInt8.reduceOfNat, hT, hl9, List.take_of_length_le] <;> (try and_intros) <;> (try omega)))
      ·
        refine WA.regionE ty_ok hs fun K hK => ?_
        simp only [go_sem, Nat.reduceAdd, Nat.reduceLT, Nat.reduceLeDiff, Nat.reduceEqDiff, Nat.reduceSub, Nat.reduceMul, Nat.reduceBEq, Nat.reduceBNe, Nat.reducePow, Nat.reduceDiv, Int.reduceLE, Int.reduceLT, Int.reduceToNat, Int.reduceNeg, Int.reduceAdd, Int.reduceSub, Int.reduceEq, reduceIte, reduceCtorEq, UInt8.reduceOfNat, sg0]
        with_reducible refine hK _ (WN.mk ?_)
        clear hK K
        repeat first | with_reducible refine WN.t ?_ | with_reducible refine WN.b ?_
        refine WA.norm 2008 fun K hK => ?_
        simp only [go_sem, Nat.reduceAdd, Nat.reduceLT, Nat.reduceLeDiff, Nat.reduceEqDiff, Nat.reduceSub, Nat.reduceMul, Nat.reduceBEq, Nat.reduceBNe, Nat.reducePow, Nat.reduceDiv, Int.reduceLE, Int.reduceLT, Int.reduceToNat, Int.reduceNeg, Int.reduceAdd, Int.reduceSub, Int.reduceEq, reduceIte, reduceCtorEq, UInt8.reduceOfNat, hl9]
        first
        | refine hK _ ?_
        | refine And.intro (by first | omega | (simp; done) | (simp; omega) | (simp_all; done) | (simp_all; omega)) (hK _ ?_)
        clear hK K
        refine WA.regionE ty_ok hs fun K hK => ?_
        simp only [go_sem, Nat.reduceAdd, Nat.reduceLT, Nat.reduceLeDiff, Nat.reduceEqDiff, Nat.reduceSub, Nat.reduceMul, Nat.reduceBEq, Nat.reduceBNe, Nat.reducePow, Nat.reduceDiv, Int.reduceLE, Int.reduceLT, Int.reduceToNat, Int.reduceNeg, Int.reduceAdd, Int.reduceSub, Int.reduceEq, reduceIte, reduceCtorEq, UInt8.reduceOfNat, sg0]
        and_intros
        all_goals try omega
        refine hK _ (roundE hX (fun k => k) (j := (2, .by_ a, .by_ (bs7.take nn), z9)) (⟨.inr (.inr ⟨rfl, ⟨_, ha, rfl⟩, ⟨_, ht9, rfl⟩⟩), hz9⟩) (by first | omega | (dsimp only; omega) | (simp; omega)) (by simp only [go_sem, Int.natCast_add, Nat.reduceAdd, Nat.reduceLT, Nat.reduceLeDiff, Nat.reduceEqDiff, Nat.reduceSub, Nat.reduceMul, Nat.reduceBEq, Nat.reduceBNe, Nat.reducePow, Nat.reduceDiv, Int.reduceLE, Int.reduceLT, Int.reduceToNat, Int.reduceNeg, Int.reduceAdd, Int.reduceSub, Int.reduceEq, reduceIte, reduceCtorEq, UInt8.reduceOfNat, hT, hl9, List.take_of_length_le] <;> (try and_intros) <;> (try omega)))
      ·
        omega
  ·
    with_reducible refine WA.exitX ?_
    repeat first | with_reducible refine WX.b ?_ | with_reducible refine WX.t ?_ | (with_reducible refine WX.n ?hne ?_; case hne => rfl)
    have h6 : k = 2 := by have := of_decide_eq_false h; omega
    subst h6
    rcases hi with ⟨q, _⟩ | ⟨q, _⟩ | ⟨_, ⟨a, ha, rfl⟩, ⟨b, hb, rfl⟩⟩
    · omega
    · omega
    refine WA.regionK ty_ok hs fun K hK => ?_
    simp only [go_sem, Nat.reduceAdd, Nat.reduceLT, Nat.reduceLeDiff, Nat.reduceEqDiff, Nat.reduceSub, Nat.reduceMul, Nat.reduceBEq, Nat.reduceBNe, Nat.reducePow, Nat.reduceDiv, Int.reduceLE, Int.reduceLT, Int.reduceToNat, Int.reduceNeg, Int.reduceAdd, Int.reduceSub, Int.reduceEq, reduceIte, reduceCtorEq, UInt8.reduceOfNat, sg0]
    first
    | refine hK _ ?_
    | refine And.intro (by first | omega | (simp; done) | (simp; omega) | (simp +contextual; done) | (simp_all; done) | (simp_all; omega)) (hK _ ?_)
    clear hK K
    refine WA.retE ty_ok (xs := [.agg [.by_ a, .by_ b]]) (ls' := [.li 2 [.agg [L, .lit (.int .i64 z)]]]) (rv := [.cell 2 25]) rfl hX (by simp) (fun _ => rfl) (fun _ _ h => ⟨((a, b), z), ⟨⟨ha, hb⟩, hd⟩, h⟩) ?_
    simp only [go_sem, Nat.reduceAdd, Nat.reduceLT, Nat.reduceLeDiff, Nat.reduceEqDiff, Nat.reduceSub, Nat.reduceMul, Nat.reduceBEq, Nat.reduceBNe, Nat.reducePow, Nat.reduceDiv, Int.reduceLE, Int.reduceLT, Int.reduceToNat, Int.reduceNeg, Int.reduceAdd, Int.reduceSub, Int.reduceEq, reduceIte, reduceCtorEq, UInt8.reduceOfNat, hT]
end Go.Proofs.Ytjhiagelgleomaa
