import Derived.Test.YtjhiagelgleomaaMemI
namespace Go.Proofs.Ytjhiagelgleomaa
open Go.RowKit Go.TravelBase Go.TravelAbs
set_option linter.unusedVariables false
set_option linter.unusedSimpArgs false











/-! ### Bytes -/
def bS (ws : List Wr) : Nat := (ws.map fun x => x.bytes.length).sum
theorem bS_take {ws : List Wr} {i : Nat} (h : i < ws.length) : bS (ws.take (i + 1)) = bS (ws.take i) + ws[i].bytes.length := by
  unfold bS
  rw [List.take_succ_eq_append_getElem h, List.map_append, List.sum_append]
  simp
theorem bS_le (ws : List Wr) (i : Nat) : bS (ws.take i) ≤ bS ws := by
  have : bS ws = bS (ws.take i) + bS (ws.drop i) := by
    unfold bS
    rw [← List.sum_append, ← List.map_append, List.take_append_drop]
  omega
theorem bytes_s (ws : List Wr) (hb : bS ws ≤ 1000000000) : FnS Try.prog 25 [.li 3 (ws.map wA)] [] (.lit (.int .i64 (bS ws : Nat))) [] := by
  have hs := sg7_ok
  refine FnS.len fun hL _ => ?_
  have hL := hL 0 3 _ rfl
  rw [List.length_map] at hL
  simp only [maxLen] at hL
  refine FnS.of Try.func25 rfl (N := 19) rfl (by simp) (by simp) fun X hX => ?_
  simp only [tmArgs, lentH, Nat.reduceAdd]
  refine WA.regionK ty_ok hs fun K hK => ?_
  simp only [go_sem, Nat.reduceAdd, Nat.reduceLT, Nat.reduceLeDiff, Nat.reduceEqDiff, Nat.reduceSub, Nat.reduceMul, Nat.reduceBEq, Nat.reduceBNe, Nat.reducePow, Nat.reduceDiv, Int.reduceLE, Int.reduceLT, Int.reduceToNat, Int.reduceNeg, Int.reduceAdd, Int.reduceSub, Int.reduceEq, reduceIte, reduceCtorEq, UInt8.reduceOfNat, sg7]
  first
  | refine hK _ ?_
  | refine And.intro (by first | omega | (simp; done) | (simp; omega) | (simp +contextual; done) | (simp_all; done) | (simp_all; omega)) (hK _ ?_)
  clear hK K
  refine WA.regionK ty_ok hs fun K hK => ?_
  simp only [go_sem, Nat.reduceAdd, Nat.reduceLT, Nat.reduceLeDiff, Nat.reduceEqDiff, Nat.reduceSub, Nat.reduceMul, Nat.reduceBEq, Nat.reduceBNe, Nat.reducePow, Nat.reduceDiv, Int.reduceLE, Int.reduceLT, Int.reduceToNat, Int.reduceNeg, Int.reduceAdd, Int.reduceSub, Int.reduceEq, reduceIte, reduceCtorEq, UInt8.reduceOfNat, sg7]
  first
  | refine hK _ ?_
  | refine And.intro (by first | omega | (simp; done) | (simp; omega) | (simp +contextual; done) | (simp_all; done) | (simp_all; omega)) (hK _ ?_)
  clear hK K
  refine WA.seq ?_
  refine WA.regionK ty_ok hs fun K hK => ?_
  simp only [go_sem, Nat.reduceAdd, Nat.reduceLT, Nat.reduceLeDiff, Nat.reduceEqDiff, Nat.reduceSub, Nat.reduceMul, Nat.reduceBEq, Nat.reduceBNe, Nat.reducePow, Nat.reduceDiv, Int.reduceLE, Int.reduceLT, Int.reduceToNat, Int.reduceNeg, Int.reduceAdd, Int.reduceSub, Int.reduceEq, reduceIte, reduceCtorEq, UInt8.reduceOfNat, sg7]
  first
  | refine hK _ ?_
  | refine And.intro (by first | omega | (simp; done) | (simp; omega) | (simp +contextual; done) | (simp_all; done) | (simp_all; omega)) (hK _ ?_)
  clear hK K
  refine WA.block ?_
  refine WA.loopW hX (fun k => k) ((fun i => ⟨[(6, .li 3 (ws.map wA)), (7, .lit (.int .i64 (ws.length : Nat))), (8, .lit (.int .i64 (i : Nat))), (3, .lit (.int .i64 (bS (ws.take i) : Nat)))], [], 3000, 19⟩ : Nat → St)) (fun i => ws.length - i) (fun i => i ≤ ws.length) (i0 := 0) (by first | omega | trivial | (refine ⟨by omega, ?_⟩; rfl) | (simp; done) | (simp; omega)) (by simp only [go_sem, Int.natCast_add, Nat.reduceAdd, Nat.reduceLT, Nat.reduceLeDiff, Nat.reduceEqDiff, Nat.reduceSub, Nat.reduceMul, Nat.reduceBEq, Nat.reduceBNe, Nat.reducePow, Nat.reduceDiv, Int.reduceLE, Int.reduceLT, Int.reduceToNat, Int.reduceNeg, Int.reduceAdd, Int.reduceSub, Int.reduceEq, reduceIte, reduceCtorEq, UInt8.reduceOfNat, Tr_wr, List.take_zero, bS, List.map_nil, List.sum_nil] <;> (try and_intros) <;> (try omega)) fun i hi => ?_
  refine WA.regionK ty_ok hs fun K hK => ?_
  simp only [go_sem, Nat.reduceAdd, Nat.reduceLT, Nat.reduceLeDiff, Nat.reduceEqDiff, Nat.reduceSub, Nat.reduceMul, Nat.reduceBEq, Nat.reduceBNe, Nat.reducePow, Nat.reduceDiv, Int.reduceLE, Int.reduceLT, Int.reduceToNat, Int.reduceNeg, Int.reduceAdd, Int.reduceSub, Int.reduceEq, reduceIte, reduceCtorEq, UInt8.reduceOfNat, sg7]
  first
  | refine hK _ ?_
  | refine And.intro (by first | omega | (simp; done) | (simp; omega) | (simp +contextual; done) | (simp_all; done) | (simp_all; omega)) (hK _ ?_)
  clear hK K
  refine WA.seq ?_
  refine WA.cond rfl (fun h => ?_) (fun h => ?_)
  ·
    with_reducible refine WA.skipN ?_
    repeat first | with_reducible refine WN.t ?_ | with_reducible refine WN.b ?_
    have h6 : i < ws.length := by have := of_decide_eq_true h; omega
    have g1 := wr_at h6
    have g2 := bS_take h6
    have g3 := bS_le ws (i + 1)
    clear h
    refine WA.seq ?_
    refine WA.block ?_
    refine WA.regionK ty_ok hs fun K hK => ?_
    simp only [go_sem, Nat.reduceAdd, Nat.reduceLT, Nat.reduceLeDiff, Nat.reduceEqDiff, Nat.reduceSub, Nat.reduceMul, Nat.reduceBEq, Nat.reduceBNe, Nat.reducePow, Nat.reduceDiv, Int.reduceLE, Int.reduceLT, Int.reduceToNat, Int.reduceNeg, Int.reduceAdd, Int.reduceSub, Int.reduceEq, reduceIte, reduceCtorEq, UInt8.reduceOfNat, sg7, g1]
    first
    | refine hK _ ?_
    | refine And.intro (by first | omega | (simp; done) | (simp; omega) | (simp +contextual; done) | (simp_all; done) | (simp_all; omega)) (hK _ ?_)
    clear hK K
    refine WA.regionE ty_ok hs fun K hK => ?_
    simp only [go_sem, Nat.reduceAdd, Nat.reduceLT, Nat.reduceLeDiff, Nat.reduceEqDiff, Nat.reduceSub, Nat.reduceMul, Nat.reduceBEq, Nat.reduceBNe, Nat.reducePow, Nat.reduceDiv, Int.reduceLE, Int.reduceLT, Int.reduceToNat, Int.reduceNeg, Int.reduceAdd, Int.reduceSub, Int.reduceEq, reduceIte, reduceCtorEq, UInt8.reduceOfNat, sg7]
    refine And.intro (by omega) ?_
    with_reducible refine hK _ (WN.mk ?_)
    clear hK K
    repeat first | with_reducible refine WN.t ?_ | with_reducible refine WN.b ?_
    refine WA.regionE ty_ok hs fun K hK => ?_
    simp only [go_sem, Nat.reduceAdd, Nat.reduceLT, Nat.reduceLeDiff, Nat.reduceEqDiff, Nat.reduceSub, Nat.reduceMul, Nat.reduceBEq, Nat.reduceBNe, Nat.reducePow, Nat.reduceDiv, Int.reduceLE, Int.reduceLT, Int.reduceToNat, Int.reduceNeg, Int.reduceAdd, Int.reduceSub, Int.reduceEq, reduceIte, reduceCtorEq, UInt8.reduceOfNat, sg7]
    refine And.intro (by omega) ?_
    refine hK _ (roundE hX (fun k => k) (j := i + 1) (by omega) (by omega) (by simp only [go_sem, Int.natCast_add, Nat.reduceAdd, Nat.reduceLT, Nat.reduceLeDiff, Nat.reduceEqDiff, Nat.reduceSub, Nat.reduceMul, Nat.reduceBEq, Nat.reduceBNe, Nat.reducePow, Nat.reduceDiv, Int.reduceLE, Int.reduceLT, Int.reduceToNat, Int.reduceNeg, Int.reduceAdd, Int.reduceSub, Int.reduceEq, reduceIte, reduceCtorEq, UInt8.reduceOfNat, Tr_wr, g2] <;> (try and_intros) <;> (try omega)))
  ·
    have h6 : i = ws.length := by have := of_decide_eq_false h; omega
    subst h6
    with_reducible refine WA.exitX ?_
    repeat first | with_reducible refine WX.b ?_ | with_reducible refine WX.t ?_ | (with_reducible refine WX.n ?hne ?_; case hne => rfl)
    refine WA.regionK ty_ok hs fun K hK => ?_
    simp only [go_sem, Nat.reduceAdd, Nat.reduceLT, Nat.reduceLeDiff, Nat.reduceEqDiff, Nat.reduceSub, Nat.reduceMul, Nat.reduceBEq, Nat.reduceBNe, Nat.reducePow, Nat.reduceDiv, Int.reduceLE, Int.reduceLT, Int.reduceToNat, Int.reduceNeg, Int.reduceAdd, Int.reduceSub, Int.reduceEq, reduceIte, reduceCtorEq, UInt8.reduceOfNat, sg7]
    first
    | refine hK _ ?_
    | refine And.intro (by first | omega | (simp; done) | (simp; omega) | (simp +contextual; done) | (simp_all; done) | (simp_all; omega)) (hK _ ?_)
    clear hK K
    refine WA.retE ty_ok (xs := [.lit (.int .i64 (bS ws : Nat))]) (ls' := []) (rv := [.tmp 2]) rfl hX (by decide) (fun _ => rfl) (fun _ _ h => h) ?_
    simp only [go_sem, Nat.reduceAdd, Nat.reduceLT, Nat.reduceLeDiff, Nat.reduceEqDiff, Nat.reduceSub, Nat.reduceMul, Nat.reduceBEq, Nat.reduceBNe, Nat.reducePow, Nat.reduceDiv, Int.reduceLE, Int.reduceLT, Int.reduceToNat, Int.reduceNeg, Int.reduceAdd, Int.reduceSub, Int.reduceEq, reduceIte, reduceCtorEq, UInt8.reduceOfNat, sbT, List.take_length]
end Go.Proofs.Ytjhiagelgleomaa
