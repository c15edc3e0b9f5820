import Derived.Test.YtnjmedihheblaaaFilF
import Derived.Test.YtnjmedihheblaaaDiceA
import Derived.Test.YtnjmedihheblaaaAbsDr
namespace Go.Proofs.Ytnjmedihheblaaa
open Go.RowKit Go.TravelBase Go.TravelAbs
set_option linter.unusedVariables false
set_option linter.unusedSimpArgs false












/-! ### The dice's Access and State, and the law FilesGrow -/
def sgN : Sg := fun f args ls =>
  match f, args, ls with
  | 15, [.ptr 0 0 0, .lit (.int .i64 n)], [.li 2 [.agg [L, .lit (.int .i64 z)]]] => some (.lit (.int .i64 (nxI L z n)), [.li 2 [.agg [L, .lit (.int .i64 (nxZ L z))]]], DcOK L z ∧ 1 ≤ n ∧ n ≤ 4611686018427387904)
  | 24, [.ptr 0 0 0, .lit (.int .i64 n)], [.li 2 [.agg [L, .lit (.int .i64 z)]]] => some (.lit (.bool (nxI L z n == n - 1)), [.li 2 [.agg [L, .lit (.int .i64 (nxZ L z))]]], DcOK L z ∧ 1 ≤ n ∧ n ≤ 4611686018427387904)
  | _, _, _ => none
theorem sgN_ok : SgOK Try.prog sgN := by
  intro f args ls r ls' vc h hvc
  unfold sgN at h
  split at h <;> first | (simp only [Option.some.injEq, Prod.mk.injEq] at h; obtain ⟨rfl, rfl, rfl⟩ := h) | cases h
  · exact ⟨(fnOK Try.func15 (by decide) rfl), next_s _ _ _ hvc.1 hvc.2.1 hvc.2.2⟩
  · exact ⟨(fnOK Try.func24 (by decide) rfl), one_s _ _ _ hvc.1 hvc.2.1 hvc.2.2⟩
def dAr (L : AV) (z : Int) : Int := if nxI L z 5 = 3 then nxI L (nxZ L z) 16 else 0
def dAz (L : AV) (z : Int) : Int := if nxI L z 5 = 3 then nxZ L (nxZ L z) else nxZ L z
theorem dc_Az {L : AV} {z : Int} (h : DcOK L z) : DcOK L (dAz L z) := by
  unfold dAz
  split
  · exact dc_nx (dc_nx h)
  · exact dc_nx h
theorem daccess_s (L : AV) (z : Int) (hd : DcOK L z) : FnS Try.prog 13 [.ptr 0 0 0] [.li 2 [.agg [L, .lit (.int .i64 z)]]] (.agg [.lit (.int .i64 (nxI L z 5)), .lit (.int .i64 (dAr L z))]) [.li 2 [.agg [L, .lit (.int .i64 (dAz L z))]]] := by
  have hs := sgN_ok
  have hT := hd.tr
  have hd1 := dc_nx hd
  refine FnS.of Try.func13 rfl (N := 14) rfl (by simp) (by simp) fun X hX => ?_
  simp only [tmArgs, lentH, Nat.reduceAdd]
  refine WA.regionK ty_ok hs fun K hK => ?_
  simp only [go_sem, Nat.reduceAdd, Nat.reduceLT, Nat.reduceLeDiff, Nat.reduceEqDiff, Nat.reduceSub, Nat.reduceMul, Nat.reduceBEq, Nat.reduceBNe, Nat.reducePow, Nat.reduceDiv, Int.reduceLE, Int.reduceLT, Int.reduceToNat, Int.reduceNeg, Int.reduceAdd, Int.reduceSub, Int.reduceEq, reduceIte, reduceCtorEq, UInt8.reduceOfNat, true_and]
  first
  | refine hK _ ?_
  | refine And.intro (by first | omega | (simp; done) | (simp; omega) | (simp +contextual; done) | (simp_all; done) | (simp_all; omega)) (hK _ ?_)
  clear hK K
  refine WA.regionK ty_ok hs fun K hK => ?_
  simp only [go_sem, Nat.reduceAdd, Nat.reduceLT, Nat.reduceLeDiff, Nat.reduceEqDiff, Nat.reduceSub, Nat.reduceMul, Nat.reduceBEq, Nat.reduceBNe, Nat.reducePow, Nat.reduceDiv, Int.reduceLE, Int.reduceLT, Int.reduceToNat, Int.reduceNeg, Int.reduceAdd, Int.reduceSub, Int.reduceEq, reduceIte, reduceCtorEq, UInt8.reduceOfNat, sgN, hd, hT]
  first
  | refine hK _ ?_
  | refine And.intro (by first | omega | (simp; done) | (simp; omega) | (simp +contextual; done) | (simp_all; done) | (simp_all; omega)) (hK _ ?_)
  clear hK K
  refine WA.seq ?_
  refine WA.regionK ty_ok hs fun K hK => ?_
  simp only [go_sem, Nat.reduceAdd, Nat.reduceLT, Nat.reduceLeDiff, Nat.reduceEqDiff, Nat.reduceSub, Nat.reduceMul, Nat.reduceBEq, Nat.reduceBNe, Nat.reducePow, Nat.reduceDiv, Int.reduceLE, Int.reduceLT, Int.reduceToNat, Int.reduceNeg, Int.reduceAdd, Int.reduceSub, Int.reduceEq, reduceIte, reduceCtorEq, UInt8.reduceOfNat, true_and]
  first
  | refine hK _ ?_
  | refine And.intro (by first | omega | (simp; done) | (simp; omega) | (simp +contextual; done) | (simp_all; done) | (simp_all; omega)) (hK _ ?_)
  clear hK K
  refine WA.cond rfl (fun h => ?_) (fun h => ?_)
  ·
    have h1 : nxI L z 5 = 3 := by simpa using h
    have e1 : dAr L z = nxI L (nxZ L z) 16 := if_pos h1
    have e2 : dAz L z = nxZ L (nxZ L z) := if_pos h1
    refine WA.regionE ty_ok hs fun K hK => ?_
    simp only [go_sem, Nat.reduceAdd, Nat.reduceLT, Nat.reduceLeDiff, Nat.reduceEqDiff, Nat.reduceSub, Nat.reduceMul, Nat.reduceBEq, Nat.reduceBNe, Nat.reducePow, Nat.reduceDiv, Int.reduceLE, Int.reduceLT, Int.reduceToNat, Int.reduceNeg, Int.reduceAdd, Int.reduceSub, Int.reduceEq, reduceIte, reduceCtorEq, UInt8.reduceOfNat, sgN, hd1, hT]
    with_reducible refine hK _ (WN.mk ?_)
    clear hK K
    repeat first | with_reducible refine WN.t ?_ | with_reducible refine WN.b ?_
    refine WA.regionK ty_ok hs fun K hK => ?_
    simp only [go_sem, Nat.reduceAdd, Nat.reduceLT, Nat.reduceLeDiff, Nat.reduceEqDiff, Nat.reduceSub, Nat.reduceMul, Nat.reduceBEq, Nat.reduceBNe, Nat.reducePow, Nat.reduceDiv, Int.reduceLE, Int.reduceLT, Int.reduceToNat, Int.reduceNeg, Int.reduceAdd, Int.reduceSub, Int.reduceEq, reduceIte, reduceCtorEq, UInt8.reduceOfNat, true_and]
    first
    | refine hK _ ?_
    | refine And.intro (by first | omega | (simp; done) | (simp; omega) | (simp +contextual; done) | (simp_all; done) | (simp_all; omega)) (hK _ ?_)
    clear hK K
    refine WA.retE ty_ok (xs := [.agg [.lit (.int .i64 (nxI L z 5)), .lit (.int .i64 (dAr L z))]]) (ls' := [.li 2 [.agg [L, .lit (.int .i64 (dAz L z))]]]) (rv := [.cell 2 23]) rfl hX (by simp) (fun _ => rfl) (fun _ _ h => h) ?_
    simp only [go_sem, Nat.reduceAdd, Nat.reduceLT, Nat.reduceLeDiff, Nat.reduceEqDiff, Nat.reduceSub, Nat.reduceMul, Nat.reduceBEq, Nat.reduceBNe, Nat.reducePow, Nat.reduceDiv, Int.reduceLE, Int.reduceLT, Int.reduceToNat, Int.reduceNeg, Int.reduceAdd, Int.reduceSub, Int.reduceEq, reduceIte, reduceCtorEq, UInt8.reduceOfNat, sbT, hT, e1, e2]
  ·
    with_reducible refine WA.skipN ?_
    repeat first | with_reducible refine WN.t ?_ | with_reducible refine WN.b ?_
    have h1 : ¬ nxI L z 5 = 3 := by simpa using h
    have e1 : dAr L z = 0 := if_neg h1
    have e2 : dAz L z = nxZ L z := if_neg h1
    refine WA.regionK ty_ok hs fun K hK => ?_
    simp only [go_sem, Nat.reduceAdd, Nat.reduceLT, Nat.reduceLeDiff, Nat.reduceEqDiff, Nat.reduceSub, Nat.reduceMul, Nat.reduceBEq, Nat.reduceBNe, Nat.reducePow, Nat.reduceDiv, Int.reduceLE, Int.reduceLT, Int.reduceToNat, Int.reduceNeg, Int.reduceAdd, Int.reduceSub, Int.reduceEq, reduceIte, reduceCtorEq, UInt8.reduceOfNat, true_and]
    first
    | refine hK _ ?_
    | refine And.intro (by first | omega | (simp; done) | (simp; omega) | (simp +contextual; done) | (simp_all; done) | (simp_all; omega)) (hK _ ?_)
    clear hK K
    refine WA.retE ty_ok (xs := [.agg [.lit (.int .i64 (nxI L z 5)), .lit (.int .i64 (dAr L z))]]) (ls' := [.li 2 [.agg [L, .lit (.int .i64 (dAz L z))]]]) (rv := [.cell 2 23]) rfl hX (by simp) (fun _ => rfl) (fun _ _ h => h) ?_
    simp only [go_sem, Nat.reduceAdd, Nat.reduceLT, Nat.reduceLeDiff, Nat.reduceEqDiff, Nat.reduceSub, Nat.reduceMul, Nat.reduceBEq, Nat.reduceBNe, Nat.reducePow, Nat.reduceDiv, Int.reduceLE, Int.reduceLT, Int.reduceToNat, Int.reduceNeg, Int.reduceAdd, Int.reduceSub, Int.reduceEq, reduceIte, reduceCtorEq, UInt8.reduceOfNat, sbT, hT, e1, e2]
def dSt (L : AV) (z : Int) : Stt := ⟨nxI L z 5, nxI L (nxZ L z) 3 == 3 - 1, nxI L (nxZ L (nxZ L z)) 2 == 2 - 1, nxI L (nxZ L (nxZ L (nxZ L z))) 2 == 2 - 1, nxI L (nxZ L (nxZ L (nxZ L (nxZ L z)))) 65536⟩
def dSz (L : AV) (z : Int) : Int := nxZ L (nxZ L (nxZ L (nxZ L (nxZ L z))))
theorem dstate_s (L : AV) (z : Int) (hd : DcOK L z) : FnS Try.prog 14 [.ptr 0 0 0] [.li 2 [.agg [L, .lit (.int .i64 z)]]] (.agg [.lit (.int .i64 (dSt L z).pw), .lit (.bool (dSt L z).b1), .lit (.bool (dSt L z).chip), .lit (.bool (dSt L z).term), .lit (.int .i64 (dSt L z).rights)]) [.li 2 [.agg [L, .lit (.int .i64 (dSz L z))]]] := by
  have hs := sgN_ok
  have hT := hd.tr
  have hd1 := dc_nx hd
  have hd2 := dc_nx hd1
  have hd3 := dc_nx hd2
  have hd4 := dc_nx hd3
  refine FnS.of Try.func14 rfl (N := 14) rfl (by simp) (by simp) fun X hX => ?_
  simp only [tmArgs, lentH, Nat.reduceAdd]
  refine WA.regionK ty_ok hs fun K hK => ?_
  simp only [go_sem, Nat.reduceAdd, Nat.reduceLT, Nat.reduceLeDiff, Nat.reduceEqDiff, Nat.reduceSub, Nat.reduceMul, Nat.reduceBEq, Nat.reduceBNe, Nat.reducePow, Nat.reduceDiv, Int.reduceLE, Int.reduceLT, Int.reduceToNat, Int.reduceNeg, Int.reduceAdd, Int.reduceSub, Int.reduceEq, reduceIte, reduceCtorEq, UInt8.reduceOfNat, true_and]
  first
  | refine hK _ ?_
  | refine And.intro (by first | omega | (simp; done) | (simp; omega) | (simp +contextual; done) | (simp_all; done) | (simp_all; omega)) (hK _ ?_)
  clear hK K
  refine WA.regionK ty_ok hs fun K hK => ?_
  simp only [go_sem, Nat.reduceAdd, Nat.reduceLT, Nat.reduceLeDiff, Nat.reduceEqDiff, Nat.reduceSub, Nat.reduceMul, Nat.reduceBEq, Nat.reduceBNe, Nat.reducePow, Nat.reduceDiv, Int.reduceLE, Int.reduceLT, Int.reduceToNat, Int.reduceNeg, Int.reduceAdd, Int.reduceSub, Int.reduceEq, reduceIte, reduceCtorEq, UInt8.reduceOfNat, sgN, hd, hT, hd1, hd2, hd3, hd4]
  first
  | refine hK _ ?_
  | refine And.intro (by first | omega | (simp; done) | (simp; omega) | (simp +contextual; done) | (simp_all; done) | (simp_all; omega)) (hK _ ?_)
  clear hK K
  refine WA.retE ty_ok (xs := [.agg [.lit (.int .i64 (dSt L z).pw), .lit (.bool (dSt L z).b1), .lit (.bool (dSt L z).chip), .lit (.bool (dSt L z).term), .lit (.int .i64 (dSt L z).rights)]]) (ls' := [.li 2 [.agg [L, .lit (.int .i64 (dSz L z))]]]) (rv := [.cell 2 25]) rfl hX (by simp) (fun _ => rfl) (fun _ _ h => h) ?_
  simp only [go_sem, Nat.reduceAdd, Nat.reduceLT, Nat.reduceLeDiff, Nat.reduceEqDiff, Nat.reduceSub, Nat.reduceMul, Nat.reduceBEq, Nat.reduceBNe, Nat.reducePow, Nat.reduceDiv, Int.reduceLE, Int.reduceLT, Int.reduceToNat, Int.reduceNeg, Int.reduceAdd, Int.reduceSub, Int.reduceEq, reduceIte, reduceCtorEq, UInt8.reduceOfNat, sbT, hT, dSt, dSz]
end Go.Proofs.Ytnjmedihheblaaa
