import Derived.Test.YtloihfflblgioaaBiM
namespace Go.Proofs.Ytloihfflblgioaa
open Go.RowKit Go.TravelBase Go.TravelAbs
set_option linter.unusedVariables false
set_option linter.unusedSimpArgs false

















/-! ### The dice's odd templates -/
theorem pick_at {z : Int} {l : List Int} (h : 0 ≤ z ∧ z < (l.length : Nat)) : ∃ v, (l.map fun v => AV.lit (.int .i64 v)).getD z.toNat .any = .lit (.int .i64 v) ∧ v ∈ l := by
  have : z.toNat < l.length := by omega
  exact ⟨l[z.toNat], by simp [List.getD, List.getElem?_eq_getElem this], List.getElem_mem this⟩
set_option maxHeartbeats 1000000 in
theorem oddt_e (L : AV) (z : Int) (t : Tm) (hd : DcOK L z) (hv : valT t = 0) : FnE Try.prog 25 [.ptr 0 0 0, .agg [.lit (.int .i64 t.kind), .lit (.int .i64 t.part), .lit (.int .i64 t.fr), .lit (.int .i64 t.to), .lit (.int .i64 t.fmt), .lit (.int .i64 t.q), .by_ t.data]] [.li 2 [.agg [L, .lit (.int .i64 z)]]] (I := Tm × Int) (fun i => DcOK L i.2) (fun i => .agg [.lit (.int .i64 i.1.kind), .lit (.int .i64 i.1.part), .lit (.int .i64 i.1.fr), .lit (.int .i64 i.1.to), .lit (.int .i64 i.1.fmt), .lit (.int .i64 i.1.q), .by_ i.1.data]) (fun i => [.li 2 [.agg [L, .lit (.int .i64 i.2)]]]) := by
  have hs := sgDd_ok
  have hT := hd.tr
  have d1 := dc_nx hd
  have d2 := dc_nx d1
  have d3 := dc_nx d2
  have r1 := nx_rng L z 6 (by omega)
  obtain ⟨c, e1⟩ : ∃ v, nxI L z 6 = v := ⟨_, rfl⟩
  rw [e1] at r1
  refine FnE.of Try.func25 rfl (N := 61) rfl (by simp) (by simp) fun X hX => ?_
  simp only [tmArgs, lentH, Nat.reduceAdd]
  refine WA.regionK ty_ok hs fun K hK => ?_
  simp only [go_sem, Nat.reduceAdd, Nat.reduceLT, Nat.reduceLeDiff, Nat.reduceEqDiff, Nat.reduceSub, Nat.reduceMul, Nat.reduceBEq, Nat.reduceBNe, Nat.reducePow, Nat.reduceDiv, Int.reduceLE, Int.reduceLT, Int.reduceToNat, Int.reduceNeg, Int.reduceAdd, Int.reduceSub, Int.reduceEq, reduceIte, reduceCtorEq, UInt8.reduceOfNat, true_and]
  repeat refine And.intro (by first | omega | assumption | (simp; done) | (simp; omega) | (simp +contextual; done) | (simp_all; done) | (simp_all; omega)) ?_
  refine hK _ ?_
  clear hK K
  refine WA.seq ?_
  refine WA.regionK ty_ok hs fun K hK => ?_
  simp only [go_sem, Nat.reduceAdd, Nat.reduceLT, Nat.reduceLeDiff, Nat.reduceEqDiff, Nat.reduceSub, Nat.reduceMul, Nat.reduceBEq, Nat.reduceBNe, Nat.reducePow, Nat.reduceDiv, Int.reduceLE, Int.reduceLT, Int.reduceToNat, Int.reduceNeg, Int.reduceAdd, Int.reduceSub, Int.reduceEq, reduceIte, reduceCtorEq, UInt8.reduceOfNat, sgDd, hd, hT, e1]
  repeat refine And.intro (by first | omega | assumption | (simp; done) | (simp; omega) | (simp +contextual; done) | (simp_all; done) | (simp_all; omega)) ?_
  refine hK _ ?_
  clear hK K
  refine WA.block ?_
  refine WA.regionK ty_ok hs fun K hK => ?_
  simp only [go_sem, Nat.reduceAdd, Nat.reduceLT, Nat.reduceLeDiff, Nat.reduceEqDiff, Nat.reduceSub, Nat.reduceMul, Nat.reduceBEq, Nat.reduceBNe, Nat.reducePow, Nat.reduceDiv, Int.reduceLE, Int.reduceLT, Int.reduceToNat, Int.reduceNeg, Int.reduceAdd, Int.reduceSub, Int.reduceEq, reduceIte, reduceCtorEq, UInt8.reduceOfNat, true_and]
  repeat refine And.intro (by first | omega | assumption | (simp; done) | (simp; omega) | (simp +contextual; done) | (simp_all; done) | (simp_all; omega)) ?_
  refine hK _ ?_
  clear hK K
  refine WA.cond rfl (fun h => ?_) (fun h => ?_)
  ·
    refine WA.regionE ty_ok hs fun K hK => ?_
    simp only [go_sem, Nat.reduceAdd, Nat.reduceLT, Nat.reduceLeDiff, Nat.reduceEqDiff, Nat.reduceSub, Nat.reduceMul, Nat.reduceBEq, Nat.reduceBNe, Nat.reducePow, Nat.reduceDiv, Int.reduceLE, Int.reduceLT, Int.reduceToNat, Int.reduceNeg, Int.reduceAdd, Int.reduceSub, Int.reduceEq, reduceIte, reduceCtorEq, UInt8.reduceOfNat, sgDd, d1, hT]
    repeat refine And.intro (by first | omega | assumption | (simp; done) | (simp; omega) | (simp +contextual; done) | (simp_all; done) | (simp_all; omega)) ?_
    with_reducible refine hK _ (WN.mk ?_)
    clear hK K
    repeat first | with_reducible refine WN.t ?_ | with_reducible refine WN.b ?_
    refine WA.regionK ty_ok hs fun K hK => ?_
    simp only [go_sem, Nat.reduceAdd, Nat.reduceLT, Nat.reduceLeDiff, Nat.reduceEqDiff, Nat.reduceSub, Nat.reduceMul, Nat.reduceBEq, Nat.reduceBNe, Nat.reducePow, Nat.reduceDiv, Int.reduceLE, Int.reduceLT, Int.reduceToNat, Int.reduceNeg, Int.reduceAdd, Int.reduceSub, Int.reduceEq, reduceIte, reduceCtorEq, UInt8.reduceOfNat, true_and]
    repeat refine And.intro (by first | omega | assumption | (simp; done) | (simp; omega) | (simp +contextual; done) | (simp_all; done) | (simp_all; omega)) ?_
    refine hK _ ?_
    clear hK K
    refine WA.norm 2008 fun K hK => ?_
    simp only [go_sem, Nat.reduceAdd, Nat.reduceLT, Nat.reduceLeDiff, Nat.reduceEqDiff, Nat.reduceSub, Nat.reduceMul, Nat.reduceBEq, Nat.reduceBNe, Nat.reducePow, Nat.reduceDiv, Int.reduceLE, Int.reduceLT, Int.reduceToNat, Int.reduceNeg, Int.reduceAdd, Int.reduceSub, Int.reduceEq, reduceIte, reduceCtorEq, UInt8.reduceOfNat, true_and]
    repeat refine And.intro (by first | omega | assumption | (simp; done) | (simp; omega) | (simp +contextual; done) | (simp_all; done) | (simp_all; omega)) ?_
    refine hK _ ?_
    clear hK K
    refine WA.retE ty_ok (xs := [.agg [.lit (.int .i64 (⟨nxI L (nxZ L z) 5, t.part, t.fr, t.to, t.fmt, t.q, t.data⟩ : Tm).kind), .lit (.int .i64 (⟨nxI L (nxZ L z) 5, t.part, t.fr, t.to, t.fmt, t.q, t.data⟩ : Tm).part), .lit (.int .i64 (⟨nxI L (nxZ L z) 5, t.part, t.fr, t.to, t.fmt, t.q, t.data⟩ : Tm).fr), .lit (.int .i64 (⟨nxI L (nxZ L z) 5, t.part, t.fr, t.to, t.fmt, t.q, t.data⟩ : Tm).to), .lit (.int .i64 (⟨nxI L (nxZ L z) 5, t.part, t.fr, t.to, t.fmt, t.q, t.data⟩ : Tm).fmt), .lit (.int .i64 (⟨nxI L (nxZ L z) 5, t.part, t.fr, t.to, t.fmt, t.q, t.data⟩ : Tm).q), .by_ (⟨nxI L (nxZ L z) 5, t.part, t.fr, t.to, t.fmt, t.q, t.data⟩ : Tm).data]]) (ls' := [.li 2 [.agg [L, .lit (.int .i64 (nxZ L (nxZ L z)))]]]) (rv := [.cell 4 37]) rfl hX (by simp) (fun _ => rfl) (fun _ _ h => ⟨((⟨nxI L (nxZ L z) 5, t.part, t.fr, t.to, t.fmt, t.q, t.data⟩ : Tm), nxZ L (nxZ L z)), d2, h⟩) ?_
    simp only [go_sem, Nat.reduceAdd, Nat.reduceLT, Nat.reduceLeDiff, Nat.reduceEqDiff, Nat.reduceSub, Nat.reduceMul, Nat.reduceBEq, Nat.reduceBNe, Nat.reducePow, Nat.reduceDiv, Int.reduceLE, Int.reduceLT, Int.reduceToNat, Int.reduceNeg, Int.reduceAdd, Int.reduceSub, Int.reduceEq, reduceIte, reduceCtorEq, UInt8.reduceOfNat, hT, bytF, TrC.by_]
  clear h
  refine WA.regionK ty_ok hs fun K hK => ?_
  simp only [go_sem, Nat.reduceAdd, Nat.reduceLT, Nat.reduceLeDiff, Nat.reduceEqDiff, Nat.reduceSub, Nat.reduceMul, Nat.reduceBEq, Nat.reduceBNe, Nat.reducePow, Nat.reduceDiv, Int.reduceLE, Int.reduceLT, Int.reduceToNat, Int.reduceNeg, Int.reduceAdd, Int.reduceSub, Int.reduceEq, reduceIte, reduceCtorEq, UInt8.reduceOfNat, true_and]
  repeat refine And.intro (by first | omega | assumption | (simp; done) | (simp; omega) | (simp +contextual; done) | (simp_all; done) | (simp_all; omega)) ?_
  refine hK _ ?_
  clear hK K
  refine WA.cond rfl (fun h => ?_) (fun h => ?_)
  ·
    obtain ⟨v, g, _⟩ := pick_at (l := [-1, 0, 1, 2, 3, 10, 11, 256]) (nx_rng L (nxZ L z) 8 (by omega))
    have r2 := nx_rng L (nxZ L z) 8 (by omega)
    simp only [List.map_cons, List.map_nil] at g
    refine WA.regionE ty_ok hs fun K hK => ?_
    simp only [go_sem, Nat.reduceAdd, Nat.reduceLT, Nat.reduceLeDiff, Nat.reduceEqDiff, Nat.reduceSub, Nat.reduceMul, Nat.reduceBEq, Nat.reduceBNe, Nat.reducePow, Nat.reduceDiv, Int.reduceLE, Int.reduceLT, Int.reduceToNat, Int.reduceNeg, Int.reduceAdd, Int.reduceSub, Int.reduceEq, reduceIte, reduceCtorEq, UInt8.reduceOfNat, sgDd, d1, hT, g]
    repeat refine And.intro (by first | omega | assumption | (simp; done) | (simp; omega) | (simp +contextual; done) | (simp_all; done) | (simp_all; omega)) ?_
    with_reducible refine hK _ (WN.mk ?_)
    clear hK K
    repeat first | with_reducible refine WN.t ?_ | with_reducible refine WN.b ?_
    refine WA.regionK ty_ok hs fun K hK => ?_
    simp only [go_sem, Nat.reduceAdd, Nat.reduceLT, Nat.reduceLeDiff, Nat.reduceEqDiff, Nat.reduceSub, Nat.reduceMul, Nat.reduceBEq, Nat.reduceBNe, Nat.reducePow, Nat.reduceDiv, Int.reduceLE, Int.reduceLT, Int.reduceToNat, Int.reduceNeg, Int.reduceAdd, Int.reduceSub, Int.reduceEq, reduceIte, reduceCtorEq, UInt8.reduceOfNat, true_and]
    repeat refine And.intro (by first | omega | assumption | (simp; done) | (simp; omega) | (simp +contextual; done) | (simp_all; done) | (simp_all; omega)) ?_
    refine hK _ ?_
    clear hK K
    refine WA.norm 2008 fun K hK => ?_
    simp only [go_sem, Nat.reduceAdd, Nat.reduceLT, Nat.reduceLeDiff, Nat.reduceEqDiff, Nat.reduceSub, Nat.reduceMul, Nat.reduceBEq, Nat.reduceBNe, Nat.reducePow, Nat.reduceDiv, Int.reduceLE, Int.reduceLT, Int.reduceToNat, Int.reduceNeg, Int.reduceAdd, Int.reduceSub, Int.reduceEq, reduceIte, reduceCtorEq, UInt8.reduceOfNat, true_and]
    repeat refine And.intro (by first | omega | assumption | (simp; done) | (simp; omega) | (simp +contextual; done) | (simp_all; done) | (simp_all; omega)) ?_
    refine hK _ ?_
    clear hK K
    refine WA.retE ty_ok (xs := [.agg [.lit (.int .i64 (⟨t.kind, v, t.fr, t.to, t.fmt, t.q, t.data⟩ : Tm).kind), .lit (.int .i64 (⟨t.kind, v, t.fr, t.to, t.fmt, t.q, t.data⟩ : Tm).part), .lit (.int .i64 (⟨t.kind, v, t.fr, t.to, t.fmt, t.q, t.data⟩ : Tm).fr), .lit (.int .i64 (⟨t.kind, v, t.fr, t.to, t.fmt, t.q, t.data⟩ : Tm).to), .lit (.int .i64 (⟨t.kind, v, t.fr, t.to, t.fmt, t.q, t.data⟩ : Tm).fmt), .lit (.int .i64 (⟨t.kind, v, t.fr, t.to, t.fmt, t.q, t.data⟩ : Tm).q), .by_ (⟨t.kind, v, t.fr, t.to, t.fmt, t.q, t.data⟩ : Tm).data]]) (ls' := [.li 2 [.agg [L, .lit (.int .i64 (nxZ L (nxZ L z)))]]]) (rv := [.cell 4 37]) rfl hX (by simp) (fun _ => rfl) (fun _ _ h => ⟨((⟨t.kind, v, t.fr, t.to, t.fmt, t.q, t.data⟩ : Tm), nxZ L (nxZ L z)), d2, h⟩) ?_
    simp only [go_sem, Nat.reduceAdd, Nat.reduceLT, Nat.reduceLeDiff, Nat.reduceEqDiff, Nat.reduceSub, Nat.reduceMul, Nat.reduceBEq, Nat.reduceBNe, Nat.reducePow, Nat.reduceDiv, Int.reduceLE, Int.reduceLT, Int.reduceToNat, Int.reduceNeg, Int.reduceAdd, Int.reduceSub, Int.reduceEq, reduceIte, reduceCtorEq, UInt8.reduceOfNat, hT, bytF, TrC.by_]
  clear h
  refine WA.regionK ty_ok hs fun K hK => ?_
  simp only [go_sem, Nat.reduceAdd, Nat.reduceLT, Nat.reduceLeDiff, Nat.reduceEqDiff, Nat.reduceSub, Nat.reduceMul, Nat.reduceBEq, Nat.reduceBNe, Nat.reducePow, Nat.reduceDiv, Int.reduceLE, Int.reduceLT, Int.reduceToNat, Int.reduceNeg, Int.reduceAdd, Int.reduceSub, Int.reduceEq, reduceIte, reduceCtorEq, UInt8.reduceOfNat, true_and]
  repeat refine And.intro (by first | omega | assumption | (simp; done) | (simp; omega) | (simp +contextual; done) | (simp_all; done) | (simp_all; omega)) ?_
  refine hK _ ?_
  clear hK K
  refine WA.cond rfl (fun h => ?_) (fun h => ?_)
  ·
    obtain ⟨v, g, _⟩ := pick_at (l := [-1, 0, 73048, 73049, t.to + 1]) (nx_rng L (nxZ L z) 5 (by omega))
    have r2 := nx_rng L (nxZ L z) 5 (by omega)
    have r3 := (val0 hv).2.1
    unfold DayT at r3
    simp only [List.map_cons, List.map_nil] at g
    refine WA.drawn2 mixed_ ty_ok hs (tbl := [[], [0], [0, 1], [0, 1, 2], [], [4], [0, 1, 2, 3, 4, 5], [0, 1, 2, 3, 4, 5, 6], [0, 1, 2, 3, 4, 5, 6, 7], [0, 1, 2, 3, 4, 5, 6, 7, 8]]) (nb := [1, 5, 7, 9]) (hk := [[0], [0], [0], [0], [], [], [], [], [], []]) (by kernel_rfl) fun K hK => ?_
    simp only [go_sem, Nat.reduceAdd, Nat.reduceLT, Nat.reduceLeDiff, Nat.reduceEqDiff, Nat.reduceSub, Nat.reduceMul, Nat.reduceBEq, Nat.reduceBNe, Nat.reducePow, Nat.reduceDiv, Int.reduceLE, Int.reduceLT, Int.reduceToNat, Int.reduceNeg, Int.reduceAdd, Int.reduceSub, Int.reduceEq, reduceIte, reduceCtorEq, UInt8.reduceOfNat, sgDd, d1, hT, g]
    repeat refine And.intro (by first | omega | assumption | (simp; done) | (simp; omega) | (simp +contextual; done) | (simp_all; done) | (simp_all; omega)) ?_
    with_reducible refine hK _ (WN.mk ?_)
    clear hK K
    repeat first | with_reducible refine WN.t ?_ | with_reducible refine WN.b ?_
    refine WA.regionK ty_ok hs fun K hK => ?_
    simp only [go_sem, Nat.reduceAdd, Nat.reduceLT, Nat.reduceLeDiff, Nat.reduceEqDiff, Nat.reduceSub, Nat.reduceMul, Nat.reduceBEq, Nat.reduceBNe, Nat.reducePow, Nat.reduceDiv, Int.reduceLE, Int.reduceLT, Int.reduceToNat, Int.reduceNeg, Int.reduceAdd, Int.reduceSub, Int.reduceEq, reduceIte, reduceCtorEq, UInt8.reduceOfNat, true_and]
    repeat refine And.intro (by first | omega | assumption | (simp; done) | (simp; omega) | (simp +contextual; done) | (simp_all; done) | (simp_all; omega)) ?_
    refine hK _ ?_
    clear hK K
    refine WA.norm 2008 fun K hK => ?_
    simp only [go_sem, Nat.reduceAdd, Nat.reduceLT, Nat.reduceLeDiff, Nat.reduceEqDiff, Nat.reduceSub, Nat.reduceMul, Nat.reduceBEq, Nat.reduceBNe, Nat.reducePow, Nat.reduceDiv, Int.reduceLE, Int.reduceLT, Int.reduceToNat, Int.reduceNeg, Int.reduceAdd, Int.reduceSub, Int.reduceEq, reduceIte, reduceCtorEq, UInt8.reduceOfNat, true_and]
    repeat refine And.intro (by first | omega | assumption | (simp; done) | (simp; omega) | (simp +contextual; done) | (simp_all; done) | (simp_all; omega)) ?_
    refine hK _ ?_
    clear hK K
    refine WA.retE ty_ok (xs := [.agg [.lit (.int .i64 (⟨t.kind, t.part, v, t.to, t.fmt, t.q, t.data⟩ : Tm).kind), .lit (.int .i64 (⟨t.kind, t.part, v, t.to, t.fmt, t.q, t.data⟩ : Tm).part), .lit (.int .i64 (⟨t.kind, t.part, v, t.to, t.fmt, t.q, t.data⟩ : Tm).fr), .lit (.int .i64 (⟨t.kind, t.part, v, t.to, t.fmt, t.q, t.data⟩ : Tm).to), .lit (.int .i64 (⟨t.kind, t.part, v, t.to, t.fmt, t.q, t.data⟩ : Tm).fmt), .lit (.int .i64 (⟨t.kind, t.part, v, t.to, t.fmt, t.q, t.data⟩ : Tm).q), .by_ (⟨t.kind, t.part, v, t.to, t.fmt, t.q, t.data⟩ : Tm).data]]) (ls' := [.li 2 [.agg [L, .lit (.int .i64 (nxZ L (nxZ L z)))]]]) (rv := [.cell 4 37]) rfl hX (by simp) (fun _ => rfl) (fun _ _ h => ⟨((⟨t.kind, t.part, v, t.to, t.fmt, t.q, t.data⟩ : Tm), nxZ L (nxZ L z)), d2, h⟩) ?_
    simp only [go_sem, Nat.reduceAdd, Nat.reduceLT, Nat.reduceLeDiff, Nat.reduceEqDiff, Nat.reduceSub, Nat.reduceMul, Nat.reduceBEq, Nat.reduceBNe, Nat.reducePow, Nat.reduceDiv, Int.reduceLE, Int.reduceLT, Int.reduceToNat, Int.reduceNeg, Int.reduceAdd, Int.reduceSub, Int.reduceEq, reduceIte, reduceCtorEq, UInt8.reduceOfNat, hT, bytF, TrC.by_]
  clear h
  refine WA.regionK ty_ok hs fun K hK => ?_
  simp only [go_sem, Nat.reduceAdd, Nat.reduceLT, Nat.reduceLeDiff, Nat.reduceEqDiff, Nat.reduceSub, Nat.reduceMul, Nat.reduceBEq, Nat.reduceBNe, Nat.reducePow, Nat.reduceDiv, Int.reduceLE, Int.reduceLT, Int.reduceToNat, Int.reduceNeg, Int.reduceAdd, Int.reduceSub, Int.reduceEq, reduceIte, reduceCtorEq, UInt8.reduceOfNat, true_and]
  repeat refine And.intro (by first | omega | assumption | (simp; done) | (simp; omega) | (simp +contextual; done) | (simp_all; done) | (simp_all; omega)) ?_
  refine hK _ ?_
  clear hK K
  refine WA.cond rfl (fun h => ?_) (fun h => ?_)
  ·
    obtain ⟨v, g, _⟩ := pick_at (l := [-1, 73048, 73049]) (nx_rng L (nxZ L z) 3 (by omega))
    have r2 := nx_rng L (nxZ L z) 3 (by omega)
    simp only [List.map_cons, List.map_nil] at g
    refine WA.regionE ty_ok hs fun K hK => ?_
    simp only [go_sem, Nat.reduceAdd, Nat.reduceLT, Nat.reduceLeDiff, Nat.reduceEqDiff, Nat.reduceSub, Nat.reduceMul, Nat.reduceBEq, Nat.reduceBNe, Nat.reducePow, Nat.reduceDiv, Int.reduceLE, Int.reduceLT, Int.reduceToNat, Int.reduceNeg, Int.reduceAdd, Int.reduceSub, Int.reduceEq, reduceIte, reduceCtorEq, UInt8.reduceOfNat, sgDd, d1, hT, g]
    repeat refine And.intro (by first | omega | assumption | (simp; done) | (simp; omega) | (simp +contextual; done) | (simp_all; done) | (simp_all; omega)) ?_
    with_reducible refine hK _ (WN.mk ?_)
    clear hK K
    repeat first | with_reducible refine WN.t ?_ | with_reducible refine WN.b ?_
    refine WA.regionK ty_ok hs fun K hK => ?_
    simp only [go_sem, Nat.reduceAdd, Nat.reduceLT, Nat.reduceLeDiff, Nat.reduceEqDiff, Nat.reduceSub, Nat.reduceMul, Nat.reduceBEq, Nat.reduceBNe, Nat.reducePow, Nat.reduceDiv, Int.reduceLE, Int.reduceLT, Int.reduceToNat, Int.reduceNeg, Int.reduceAdd, Int.reduceSub, Int.reduceEq, reduceIte, reduceCtorEq, UInt8.reduceOfNat, true_and]
    repeat refine And.intro (by first | omega | assumption | (simp; done) | (simp; omega) | (simp +contextual; done) | (simp_all; done) | (simp_all; omega)) ?_
    refine hK _ ?_
    clear hK K
    refine WA.norm 2008 fun K hK => ?_
    simp only [go_sem, Nat.reduceAdd, Nat.reduceLT, Nat.reduceLeDiff, Nat.reduceEqDiff, Nat.reduceSub, Nat.reduceMul, Nat.reduceBEq, Nat.reduceBNe, Nat.reducePow, Nat.reduceDiv, Int.reduceLE, Int.reduceLT, Int.reduceToNat, Int.reduceNeg, Int.reduceAdd, Int.reduceSub, Int.reduceEq, reduceIte, reduceCtorEq, UInt8.reduceOfNat, true_and]
    repeat refine And.intro (by first | omega | assumption | (simp; done) | (simp; omega) | (simp +contextual; done) | (simp_all; done) | (simp_all; omega)) ?_
    refine hK _ ?_
    clear hK K
    refine WA.retE ty_ok (xs := [.agg [.lit (.int .i64 (⟨t.kind, t.part, t.fr, v, t.fmt, t.q, t.data⟩ : Tm).kind), .lit (.int .i64 (⟨t.kind, t.part, t.fr, v, t.fmt, t.q, t.data⟩ : Tm).part), .lit (.int .i64 (⟨t.kind, t.part, t.fr, v, t.fmt, t.q, t.data⟩ : Tm).fr), .lit (.int .i64 (⟨t.kind, t.part, t.fr, v, t.fmt, t.q, t.data⟩ : Tm).to), .lit (.int .i64 (⟨t.kind, t.part, t.fr, v, t.fmt, t.q, t.data⟩ : Tm).fmt), .lit (.int .i64 (⟨t.kind, t.part, t.fr, v, t.fmt, t.q, t.data⟩ : Tm).q), .by_ (⟨t.kind, t.part, t.fr, v, t.fmt, t.q, t.data⟩ : Tm).data]]) (ls' := [.li 2 [.agg [L, .lit (.int .i64 (nxZ L (nxZ L z)))]]]) (rv := [.cell 4 37]) rfl hX (by simp) (fun _ => rfl) (fun _ _ h => ⟨((⟨t.kind, t.part, t.fr, v, t.fmt, t.q, t.data⟩ : Tm), nxZ L (nxZ L z)), d2, h⟩) ?_
    simp only [go_sem, Nat.reduceAdd, Nat.reduceLT, Nat.reduceLeDiff, Nat.reduceEqDiff, Nat.reduceSub, Nat.reduceMul, Nat.reduceBEq, Nat.reduceBNe, Nat.reducePow, Nat.reduceDiv, Int.reduceLE, Int.reduceLT, Int.reduceToNat, Int.reduceNeg, Int.reduceAdd, Int.reduceSub, Int.reduceEq, reduceIte, reduceCtorEq, UInt8.reduceOfNat, hT, bytF, TrC.by_]
  clear h
  refine WA.regionK ty_ok hs fun K hK => ?_
  simp only [go_sem, Nat.reduceAdd, Nat.reduceLT, Nat.reduceLeDiff, Nat.reduceEqDiff, Nat.reduceSub, Nat.reduceMul, Nat.reduceBEq, Nat.reduceBNe, Nat.reducePow, Nat.reduceDiv, Int.reduceLE, Int.reduceLT, Int.reduceToNat, Int.reduceNeg, Int.reduceAdd, Int.reduceSub, Int.reduceEq, reduceIte, reduceCtorEq, UInt8.reduceOfNat, true_and]
  repeat refine And.intro (by first | omega | assumption | (simp; done) | (simp; omega) | (simp +contextual; done) | (simp_all; done) | (simp_all; omega)) ?_
  refine hK _ ?_
  clear hK K
  refine WA.cond rfl (fun h => ?_) (fun h => ?_)
  ·
    obtain ⟨v, g, _⟩ := pick_at (l := [-1, 65535, 65536]) (nx_rng L (nxZ L z) 3 (by omega))
    obtain ⟨v2, g2, _⟩ := pick_at (l := [0, 100, 101, -1]) (nx_rng L (nxZ L (nxZ L z)) 4 (by omega))
    have r2 := nx_rng L (nxZ L z) 3 (by omega)
    have r3 := nx_rng L (nxZ L (nxZ L z)) 4 (by omega)
    simp only [List.map_cons, List.map_nil] at g g2
    refine WA.drawn2 mixed_ ty_ok hs (tbl := [[], [], [1], [0, 1, 2], [0, 1, 2, 3], [], [], [1, 2, 6], [1, 2, 5, 6, 7], [1, 2, 5, 6, 7, 8], [0, 1, 2, 3, 4], [0, 1, 2, 3, 4, 6, 7, 10], [0, 1, 2, 3, 4, 5, 6, 7, 8, 9, 10, 11], [0, 1, 2, 3, 4, 5, 6, 7, 8, 9, 10, 11, 12]]) (nb := [2, 4, 7, 9, 11, 13]) (hk := [[0], [], [], [0], [0], [0, 2000], [0], [], [2000], [2000], [0], [], [], []]) (by kernel_rfl) fun K hK => ?_
    simp only [go_sem, Nat.reduceAdd, Nat.reduceLT, Nat.reduceLeDiff, Nat.reduceEqDiff, Nat.reduceSub, Nat.reduceMul, Nat.reduceBEq, Nat.reduceBNe, Nat.reducePow, Nat.reduceDiv, Int.reduceLE, Int.reduceLT, Int.reduceToNat, Int.reduceNeg, Int.reduceAdd, Int.reduceSub, Int.reduceEq, reduceIte, reduceCtorEq, UInt8.reduceOfNat, sgDd, d1, d2, hT, g, g2]
    repeat refine And.intro (by first | omega | assumption | (simp; done) | (simp; omega) | (simp +contextual; done) | (simp_all; done) | (simp_all; omega)) ?_
    with_reducible refine hK _ (WN.mk ?_)
    clear hK K
    repeat first | with_reducible refine WN.t ?_ | with_reducible refine WN.b ?_
    refine WA.regionK ty_ok hs fun K hK => ?_
    simp only [go_sem, Nat.reduceAdd, Nat.reduceLT, Nat.reduceLeDiff, Nat.reduceEqDiff, Nat.reduceSub, Nat.reduceMul, Nat.reduceBEq, Nat.reduceBNe, Nat.reducePow, Nat.reduceDiv, Int.reduceLE, Int.reduceLT, Int.reduceToNat, Int.reduceNeg, Int.reduceAdd, Int.reduceSub, Int.reduceEq, reduceIte, reduceCtorEq, UInt8.reduceOfNat, true_and]
    repeat refine And.intro (by first | omega | assumption | (simp; done) | (simp; omega) | (simp +contextual; done) | (simp_all; done) | (simp_all; omega)) ?_
    refine hK _ ?_
    clear hK K
    refine WA.norm 2008 fun K hK => ?_
    simp only [go_sem, Nat.reduceAdd, Nat.reduceLT, Nat.reduceLeDiff, Nat.reduceEqDiff, Nat.reduceSub, Nat.reduceMul, Nat.reduceBEq, Nat.reduceBNe, Nat.reducePow, Nat.reduceDiv, Int.reduceLE, Int.reduceLT, Int.reduceToNat, Int.reduceNeg, Int.reduceAdd, Int.reduceSub, Int.reduceEq, reduceIte, reduceCtorEq, UInt8.reduceOfNat, true_and]
    repeat refine And.intro (by first | omega | assumption | (simp; done) | (simp; omega) | (simp +contextual; done) | (simp_all; done) | (simp_all; omega)) ?_
    refine hK _ ?_
    clear hK K
    refine WA.retE ty_ok (xs := [.agg [.lit (.int .i64 (⟨t.kind, t.part, t.fr, t.to, v, v2, t.data⟩ : Tm).kind), .lit (.int .i64 (⟨t.kind, t.part, t.fr, t.to, v, v2, t.data⟩ : Tm).part), .lit (.int .i64 (⟨t.kind, t.part, t.fr, t.to, v, v2, t.data⟩ : Tm).fr), .lit (.int .i64 (⟨t.kind, t.part, t.fr, t.to, v, v2, t.data⟩ : Tm).to), .lit (.int .i64 (⟨t.kind, t.part, t.fr, t.to, v, v2, t.data⟩ : Tm).fmt), .lit (.int .i64 (⟨t.kind, t.part, t.fr, t.to, v, v2, t.data⟩ : Tm).q), .by_ (⟨t.kind, t.part, t.fr, t.to, v, v2, t.data⟩ : Tm).data]]) (ls' := [.li 2 [.agg [L, .lit (.int .i64 (nxZ L (nxZ L (nxZ L z))))]]]) (rv := [.cell 4 37]) rfl hX (by simp) (fun _ => rfl) (fun _ _ h => ⟨(⟨t.kind, t.part, t.fr, t.to, v, v2, t.data⟩, nxZ L (nxZ L (nxZ L z))), d3, h⟩) ?_
    simp only [go_sem, Nat.reduceAdd, Nat.reduceLT, Nat.reduceLeDiff, Nat.reduceEqDiff, Nat.reduceSub, Nat.reduceMul, Nat.reduceBEq, Nat.reduceBNe, Nat.reducePow, Nat.reduceDiv, Int.reduceLE, Int.reduceLT, Int.reduceToNat, Int.reduceNeg, Int.reduceAdd, Int.reduceSub, Int.reduceEq, reduceIte, reduceCtorEq, UInt8.reduceOfNat, hT, bytF, TrC.by_]
  ·
    obtain ⟨v, g, hm⟩ := pick_at (l := [0, 1, 1024, 1025]) (nx_rng L (nxZ L z) 4 (by omega))
    have r2 := nx_rng L (nxZ L z) 4 (by omega)
    have r3 : 0 ≤ v ∧ v ≤ 1025 := by
      simp only [List.mem_cons, List.not_mem_nil, or_false] at hm
      omega
    simp only [List.map_cons, List.map_nil] at g
    refine WA.regionE ty_ok hs fun K hK => ?_
    simp only [go_sem, Nat.reduceAdd, Nat.reduceLT, Nat.reduceLeDiff, Nat.reduceEqDiff, Nat.reduceSub, Nat.reduceMul, Nat.reduceBEq, Nat.reduceBNe, Nat.reducePow, Nat.reduceDiv, Int.reduceLE, Int.reduceLT, Int.reduceToNat, Int.reduceNeg, Int.reduceAdd, Int.reduceSub, Int.reduceEq, reduceIte, reduceCtorEq, UInt8.reduceOfNat, sgDd, d1, hT, g]
    repeat refine And.intro (by first | omega | assumption | (simp; done) | (simp; omega) | (simp +contextual; done) | (simp_all; done) | (simp_all; omega)) ?_
    with_reducible refine hK _ (WN.mk ?_)
    clear hK K
    repeat first | with_reducible refine WN.t ?_ | with_reducible refine WN.b ?_
    refine WA.regionK ty_ok hs fun K hK => ?_
    simp only [go_sem, Nat.reduceAdd, Nat.reduceLT, Nat.reduceLeDiff, Nat.reduceEqDiff, Nat.reduceSub, Nat.reduceMul, Nat.reduceBEq, Nat.reduceBNe, Nat.reducePow, Nat.reduceDiv, Int.reduceLE, Int.reduceLT, Int.reduceToNat, Int.reduceNeg, Int.reduceAdd, Int.reduceSub, Int.reduceEq, reduceIte, reduceCtorEq, UInt8.reduceOfNat, true_and]
    repeat refine And.intro (by first | omega | assumption | (simp; done) | (simp; omega) | (simp +contextual; done) | (simp_all; done) | (simp_all; omega)) ?_
    refine hK _ ?_
    clear hK K
    refine WA.norm 2008 fun K hK => ?_
    simp only [go_sem, Nat.reduceAdd, Nat.reduceLT, Nat.reduceLeDiff, Nat.reduceEqDiff, Nat.reduceSub, Nat.reduceMul, Nat.reduceBEq, Nat.reduceBNe, Nat.reducePow, Nat.reduceDiv, Int.reduceLE, Int.reduceLT, Int.reduceToNat, Int.reduceNeg, Int.reduceAdd, Int.reduceSub, Int.reduceEq, reduceIte, reduceCtorEq, UInt8.reduceOfNat, true_and]
    repeat refine And.intro (by first | omega | assumption | (simp; done) | (simp; omega) | (simp +contextual; done) | (simp_all; done) | (simp_all; omega)) ?_
    refine hK _ ?_
    clear hK K
    refine WA.retE ty_ok (xs := [.agg [.lit (.int .i64 (⟨t.kind, t.part, t.fr, t.to, t.fmt, t.q, List.replicate v.toNat 0⟩ : Tm).kind), .lit (.int .i64 (⟨t.kind, t.part, t.fr, t.to, t.fmt, t.q, List.replicate v.toNat 0⟩ : Tm).part), .lit (.int .i64 (⟨t.kind, t.part, t.fr, t.to, t.fmt, t.q, List.replicate v.toNat 0⟩ : Tm).fr), .lit (.int .i64 (⟨t.kind, t.part, t.fr, t.to, t.fmt, t.q, List.replicate v.toNat 0⟩ : Tm).to), .lit (.int .i64 (⟨t.kind, t.part, t.fr, t.to, t.fmt, t.q, List.replicate v.toNat 0⟩ : Tm).fmt), .lit (.int .i64 (⟨t.kind, t.part, t.fr, t.to, t.fmt, t.q, List.replicate v.toNat 0⟩ : Tm).q), .by_ (⟨t.kind, t.part, t.fr, t.to, t.fmt, t.q, List.replicate v.toNat 0⟩ : Tm).data]]) (ls' := [.li 2 [.agg [L, .lit (.int .i64 (nxZ L (nxZ L z)))]]]) (rv := [.cell 4 37]) rfl hX (by simp) (fun _ => rfl) (fun _ _ h => ⟨(⟨t.kind, t.part, t.fr, t.to, t.fmt, t.q, List.replicate v.toNat 0⟩, nxZ L (nxZ L z)), d2, h⟩) ?_
    simp only [go_sem, Nat.reduceAdd, Nat.reduceLT, Nat.reduceLeDiff, Nat.reduceEqDiff, Nat.reduceSub, Nat.reduceMul, Nat.reduceBEq, Nat.reduceBNe, Nat.reducePow, Nat.reduceDiv, Int.reduceLE, Int.reduceLT, Int.reduceToNat, Int.reduceNeg, Int.reduceAdd, Int.reduceSub, Int.reduceEq, reduceIte, reduceCtorEq, UInt8.reduceOfNat, hT, bytF, TrC.by_]
    all_goals exact List.take_of_length_le (by simp)
end Go.Proofs.Ytloihfflblgioaa
