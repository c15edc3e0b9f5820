import Derived.Test.YtnjmedihheblaaaFilDc
import Derived.Test.YtnjmedihheblaaaAbsSb
namespace Go.Proofs.Ytnjmedihheblaaa
open Go.RowKit Go.TravelBase Go.TravelAbs
set_option linter.unusedVariables false
set_option linter.unusedSimpArgs false












/-! ### The dice's Place -/
theorem pickI (l : List Int) (n : Int) (h : 0 ≤ n ∧ n < l.length) : ∃ v ∈ l, (l.map iA).getD n.toNat .any = .lit (.int .i64 v) := by
  have h1 : n.toNat < l.length := by omega
  exact ⟨l[n.toNat], List.getElem_mem h1, ia_at h1⟩
theorem place_e (L : AV) (z : Int) (hd : DcOK L z) (root : List Fl) (apps : List Fap) (hr1 : root.length ≤ 4) (ha1 : apps.length ≤ 2) (ha2 : ∀ x ∈ apps, x.files.length ≤ 4) : FnE Try.prog 23 [.ptr 0 0 0, .agg [.li 5 (root.map flA), .li 2 (apps.map apA)]] [.li 2 [.agg [L, .lit (.int .i64 z)]]] (I := (Int × Int) × Int) (fun i => DcOK L i.2) (fun i => .agg [.lit (.int .i64 i.1.1), .lit (.int .i64 i.1.2)]) (fun i => [.li 2 [.agg [L, .lit (.int .i64 i.2)]]]) := by
  have hs := sgN_ok
  have hT := hd.tr
  have hr := nx_rng L z ((apps.length : Int) + 1) (by omega)
  have hd0 := dc_nx hd
  obtain ⟨u, hu⟩ : ∃ u, nxI L z ((apps.length : Int) + 1) = u + 1 := ⟨nxI L z ((apps.length : Int) + 1) - 1, by omega⟩
  rw [hu] at hr
  have e1 : u + 1 - 1 = u := by omega
  obtain ⟨b, hb⟩ : ∃ b, nxZ L z = b := ⟨_, rfl⟩
  rw [hb] at hd0
  refine FnE.of Try.func23 rfl (N := 56) rfl (by simp) (by simp) fun X hX => ?_
  simp only [tmArgs, lentH, Nat.reduceAdd]
  refine WA.regionK ty_ok hs fun K hK => ?_
  simp only [go_sem, Nat.reduceAdd, Nat.reduceLT, Nat.reduceLeDiff, Nat.reduceEqDiff, Nat.reduceSub, Nat.reduceMul, Nat.reduceBEq, Nat.reduceBNe, Nat.reducePow, Nat.reduceDiv, Int.reduceLE, Int.reduceLT, Int.reduceToNat, Int.reduceNeg, Int.reduceAdd, Int.reduceSub, Int.reduceEq, reduceIte, reduceCtorEq, UInt8.reduceOfNat, Tr_fls, Tr_aps]
  first
  | refine hK _ ?_
  | refine And.intro (by first | omega | (simp; done) | (simp; omega) | (simp +contextual; done) | (simp_all; done) | (simp_all; omega)) (hK _ ?_)
  clear hK K
  refine WA.regionK ty_ok hs fun K hK => ?_
  simp only [go_sem, Nat.reduceAdd, Nat.reduceLT, Nat.reduceLeDiff, Nat.reduceEqDiff, Nat.reduceSub, Nat.reduceMul, Nat.reduceBEq, Nat.reduceBNe, Nat.reducePow, Nat.reduceDiv, Int.reduceLE, Int.reduceLT, Int.reduceToNat, Int.reduceNeg, Int.reduceAdd, Int.reduceSub, Int.reduceEq, reduceIte, reduceCtorEq, UInt8.reduceOfNat, sgN, hd, hT, hu, hb, e1]
  first
  | refine hK _ ?_
  | refine And.intro (by first | omega | (simp; done) | (simp; omega) | (simp +contextual; done) | (simp_all; done) | (simp_all; omega)) (hK _ ?_)
  clear hK K
  refine WA.regionK ty_ok hs fun K hK => ?_
  simp only [go_sem, Nat.reduceAdd, Nat.reduceLT, Nat.reduceLeDiff, Nat.reduceEqDiff, Nat.reduceSub, Nat.reduceMul, Nat.reduceBEq, Nat.reduceBNe, Nat.reducePow, Nat.reduceDiv, Int.reduceLE, Int.reduceLT, Int.reduceToNat, Int.reduceNeg, Int.reduceAdd, Int.reduceSub, Int.reduceEq, reduceIte, reduceCtorEq, UInt8.reduceOfNat, true_and]
  first
  | refine hK _ ?_
  | refine And.intro (by first | omega | (simp; done) | (simp; omega) | (simp +contextual; done) | (simp_all; done) | (simp_all; omega)) (hK _ ?_)
  clear hK K
  refine WA.join (fun (i : Nat) => ⟨[(0, .ptr 0 0 0), (3, .ptr 2000 0 0), (4, .ptr 2008 0 0), (5, .ptr 2080 0 0), (6, .lit (.int .i64 (i : Nat)))], [(2080, ⟨.li 2 [.agg [.lit (.int .i64 u), .lit (.int .i64 (-1))]], 0, false⟩), (2008, ⟨.li 2 [.agg [.lit (.int .i64 0), .lit (.int .i64 0)]], 0, false⟩), (2000, ⟨.li 2 [.agg [.li 5 (root.map flA), .li 2 (apps.map apA)]], 0, false⟩), (0, ⟨.li 2 [.agg [L, .lit (.int .i64 b)]], 0, true⟩)], 3000, 56⟩) (fun i => i ≤ 4) ?_ ?_
  ·
    refine WA.regionK ty_ok hs fun K hK => ?_
    simp only [go_sem, Nat.reduceAdd, Nat.reduceLT, Nat.reduceLeDiff, Nat.reduceEqDiff, Nat.reduceSub, Nat.reduceMul, Nat.reduceBEq, Nat.reduceBNe, Nat.reducePow, Nat.reduceDiv, Int.reduceLE, Int.reduceLT, Int.reduceToNat, Int.reduceNeg, Int.reduceAdd, Int.reduceSub, Int.reduceEq, reduceIte, reduceCtorEq, UInt8.reduceOfNat, true_and]
    first
    | refine hK _ ?_
    | refine And.intro (by first | omega | (simp; done) | (simp; omega) | (simp +contextual; done) | (simp_all; done) | (simp_all; omega)) (hK _ ?_)
    clear hK K
    refine WA.cond rfl (fun h => ?_) (fun h => ?_)
    ·
      have h : 0 ≤ u := of_decide_eq_true h
      obtain ⟨k, rfl⟩ := Int.eq_ofNat_of_zero_le h
      have hk : k < apps.length := by omega
      have g := ap_at hk
      have g2 := ha2 _ (List.getElem_mem hk)
      refine WA.regionE ty_ok hs fun K hK => ?_
      simp only [go_sem, Nat.reduceAdd, Nat.reduceLT, Nat.reduceLeDiff, Nat.reduceEqDiff, Nat.reduceSub, Nat.reduceMul, Nat.reduceBEq, Nat.reduceBNe, Nat.reducePow, Nat.reduceDiv, Int.reduceLE, Int.reduceLT, Int.reduceToNat, Int.reduceNeg, Int.reduceAdd, Int.reduceSub, Int.reduceEq, reduceIte, reduceCtorEq, UInt8.reduceOfNat, g, Tr_fls]
      repeat refine And.intro (by first | omega | assumption | (simp; done) | (simp; omega) | (simp +contextual; done) | (simp_all; done) | (simp_all; omega)) ?_
      refine hK _ (joinE hX (fun k => k) (apps[k].files.length) (g2) (by simp only [go_sem, Int.natCast_add, Nat.reduceAdd, Nat.reduceLT, Nat.reduceLeDiff, Nat.reduceEqDiff, Nat.reduceSub, Nat.reduceMul, Nat.reduceBEq, Nat.reduceBNe, Nat.reducePow, Nat.reduceDiv, Int.reduceLE, Int.reduceLT, Int.reduceToNat, Int.reduceNeg, Int.reduceAdd, Int.reduceSub, Int.reduceEq, reduceIte, reduceCtorEq, UInt8.reduceOfNat, hT, Tr_fls, Tr_aps] <;> (try and_intros) <;> (try omega)))
    ·
      refine WA.skipN (WN.join hX (fun k => k) (root.length) (hr1) (by simp only [go_sem, Int.natCast_add, Nat.reduceAdd, Nat.reduceLT, Nat.reduceLeDiff, Nat.reduceEqDiff, Nat.reduceSub, Nat.reduceMul, Nat.reduceBEq, Nat.reduceBNe, Nat.reducePow, Nat.reduceDiv, Int.reduceLE, Int.reduceLT, Int.reduceToNat, Int.reduceNeg, Int.reduceAdd, Int.reduceSub, Int.reduceEq, reduceIte, reduceCtorEq, UInt8.reduceOfNat, hT, Tr_fls, Tr_aps] <;> (try and_intros) <;> (try omega)))
  intro n hn
  have hr3 := nx_rng L b ((n : Int) + 1) (by omega)
  have hd3 := dc_nx hd0
  refine WA.regionK ty_ok hs fun K hK => ?_
  simp only [go_sem, Nat.reduceAdd, Nat.reduceLT, Nat.reduceLeDiff, Nat.reduceEqDiff, Nat.reduceSub, Nat.reduceMul, Nat.reduceBEq, Nat.reduceBNe, Nat.reducePow, Nat.reduceDiv, Int.reduceLE, Int.reduceLT, Int.reduceToNat, Int.reduceNeg, Int.reduceAdd, Int.reduceSub, Int.reduceEq, reduceIte, reduceCtorEq, UInt8.reduceOfNat, sgN, hd0, hT]
  first
  | refine hK _ ?_
  | refine And.intro (by first | omega | (simp; done) | (simp; omega) | (simp +contextual; done) | (simp_all; done) | (simp_all; omega)) (hK _ ?_)
  clear hK K
  have hd4 := dc_nx hd3
  refine WA.join (fun (i : Int × Int) => ⟨[(0, .ptr 0 0 0), (3, .ptr 2000 0 0), (4, .ptr 2008 0 0), (5, .ptr 2080 0 0), (6, .lit (.int .i64 (n : Nat)))], [(2080, ⟨.li 2 [.agg [.lit (.int .i64 i.1), .lit (.int .i64 (nxI L b ((n : Int) + 1) - 1))]], 0, false⟩), (2008, ⟨.li 2 [.agg [.lit (.int .i64 0), .lit (.int .i64 0)]], 0, false⟩), (2000, ⟨.li 2 [.agg [.li 5 (root.map flA), .li 2 (apps.map apA)]], 0, false⟩), (0, ⟨.li 2 [.agg [L, .lit (.int .i64 i.2)]], 0, true⟩)], 3000, 56⟩) (fun i => DcOK L i.2) ?_ ?_
  ·
    refine WA.regionK ty_ok hs fun K hK => ?_
    simp only [go_sem, Nat.reduceAdd, Nat.reduceLT, Nat.reduceLeDiff, Nat.reduceEqDiff, Nat.reduceSub, Nat.reduceMul, Nat.reduceBEq, Nat.reduceBNe, Nat.reducePow, Nat.reduceDiv, Int.reduceLE, Int.reduceLT, Int.reduceToNat, Int.reduceNeg, Int.reduceAdd, Int.reduceSub, Int.reduceEq, reduceIte, reduceCtorEq, UInt8.reduceOfNat, sgN, hd3, hT]
    first
    | refine hK _ ?_
    | refine And.intro (by first | omega | (simp; done) | (simp; omega) | (simp +contextual; done) | (simp_all; done) | (simp_all; omega)) (hK _ ?_)
    clear hK K
    refine WA.cond rfl (fun h => ?_) (fun h => ?_)
    ·
      obtain ⟨v, hv, ev⟩ := pickI [-2, (apps.length : Int)] (nxI L (nxZ L (nxZ L b)) 2) (by have := nx_rng L (nxZ L (nxZ L b)) 2 (by omega); simpa using this)
      simp only [List.map_cons, List.map_nil, iA] at ev
      have hr5 := nx_rng L (nxZ L (nxZ L b)) 2 (by omega)
      refine WA.drawn2 mixed_ ty_ok hs (tbl := [[], [0], [0, 1], [0, 1, 2], [], [4], [0, 1, 2, 3, 4, 5], [0, 1, 2, 3, 4, 5, 6], [0, 1, 2, 3, 4, 5, 6, 7], [0, 1, 2, 3, 4, 5, 6, 7, 8]]) (nb := [1, 5, 7, 9]) (hk := [[], [0], [], [], [], [], [], [], [], []]) (by kernel_rfl) fun K hK => ?_
      simp only [go_sem, Nat.reduceAdd, Nat.reduceLT, Nat.reduceLeDiff, Nat.reduceEqDiff, Nat.reduceSub, Nat.reduceMul, Nat.reduceBEq, Nat.reduceBNe, Nat.reducePow, Nat.reduceDiv, Int.reduceLE, Int.reduceLT, Int.reduceToNat, Int.reduceNeg, Int.reduceAdd, Int.reduceSub, Int.reduceEq, reduceIte, reduceCtorEq, UInt8.reduceOfNat, sgN, hd4, hT, ev]
      repeat refine And.intro (by first | omega | assumption | (simp; done) | (simp; omega) | (simp +contextual; done) | (simp_all; done) | (simp_all; omega)) ?_
      refine hK _ (joinE hX (fun k => k) ((v, nxZ L (nxZ L (nxZ L b)))) (dc_nx hd4) (by simp only [go_sem, Int.natCast_add, Nat.reduceAdd, Nat.reduceLT, Nat.reduceLeDiff, Nat.reduceEqDiff, Nat.reduceSub, Nat.reduceMul, Nat.reduceBEq, Nat.reduceBNe, Nat.reducePow, Nat.reduceDiv, Int.reduceLE, Int.reduceLT, Int.reduceToNat, Int.reduceNeg, Int.reduceAdd, Int.reduceSub, Int.reduceEq, reduceIte, reduceCtorEq, UInt8.reduceOfNat, hT, Tr_fls, Tr_aps] <;> (try and_intros) <;> (try omega)))
    ·
      refine WA.skipN (WN.join hX (fun k => k) ((u, nxZ L (nxZ L b))) (hd4) (by simp only [go_sem, Int.natCast_add, Nat.reduceAdd, Nat.reduceLT, Nat.reduceLeDiff, Nat.reduceEqDiff, Nat.reduceSub, Nat.reduceMul, Nat.reduceBEq, Nat.reduceBNe, Nat.reducePow, Nat.reduceDiv, Int.reduceLE, Int.reduceLT, Int.reduceToNat, Int.reduceNeg, Int.reduceAdd, Int.reduceSub, Int.reduceEq, reduceIte, reduceCtorEq, UInt8.reduceOfNat, hT, Tr_fls, Tr_aps] <;> (try and_intros) <;> (try omega)))
  rintro ⟨a, c⟩ hd5
  simp only at hd5
  have hd6 := dc_nx hd5
  refine WA.seq ?_
  refine WA.regionK ty_ok hs fun K hK => ?_
  simp only [go_sem, Nat.reduceAdd, Nat.reduceLT, Nat.reduceLeDiff, Nat.reduceEqDiff, Nat.reduceSub, Nat.reduceMul, Nat.reduceBEq, Nat.reduceBNe, Nat.reducePow, Nat.reduceDiv, Int.reduceLE, Int.reduceLT, Int.reduceToNat, Int.reduceNeg, Int.reduceAdd, Int.reduceSub, Int.reduceEq, reduceIte, reduceCtorEq, UInt8.reduceOfNat, sgN, hd5, hT]
  first
  | refine hK _ ?_
  | refine And.intro (by first | omega | (simp; done) | (simp; omega) | (simp +contextual; done) | (simp_all; done) | (simp_all; omega)) (hK _ ?_)
  clear hK K
  refine WA.cond rfl (fun h => ?_) (fun h => ?_)
  ·
    obtain ⟨v, hv, ev⟩ := pickI [-2, (n : Int)] (nxI L (nxZ L c) 2) (by have := nx_rng L (nxZ L c) 2 (by omega); simpa using this)
    simp only [List.map_cons, List.map_nil, iA] at ev
    have hr5 := nx_rng L (nxZ L c) 2 (by omega)
    refine WA.regionE ty_ok hs fun K hK => ?_
    simp only [go_sem, Nat.reduceAdd, Nat.reduceLT, Nat.reduceLeDiff, Nat.reduceEqDiff, Nat.reduceSub, Nat.reduceMul, Nat.reduceBEq, Nat.reduceBNe, Nat.reducePow, Nat.reduceDiv, Int.reduceLE, Int.reduceLT, Int.reduceToNat, Int.reduceNeg, Int.reduceAdd, Int.reduceSub, Int.reduceEq, reduceIte, reduceCtorEq, UInt8.reduceOfNat, sgN, hd6, hT, ev]
    repeat refine And.intro (by first | omega | assumption | (simp; done) | (simp; omega) | (simp +contextual; done) | (simp_all; done) | (simp_all; omega)) ?_
    with_reducible refine hK _ (WN.mk ?_)
    clear hK K
    repeat first | with_reducible refine WN.t ?_ | with_reducible refine WN.b ?_
    refine WA.regionK ty_ok hs fun K hK => ?_
    simp only [go_sem, Nat.reduceAdd, Nat.reduceLT, Nat.reduceLeDiff, Nat.reduceEqDiff, Nat.reduceSub, Nat.reduceMul, Nat.reduceBEq, Nat.reduceBNe, Nat.reducePow, Nat.reduceDiv, Int.reduceLE, Int.reduceLT, Int.reduceToNat, Int.reduceNeg, Int.reduceAdd, Int.reduceSub, Int.reduceEq, reduceIte, reduceCtorEq, UInt8.reduceOfNat, true_and]
    first
    | refine hK _ ?_
    | refine And.intro (by first | omega | (simp; done) | (simp; omega) | (simp +contextual; done) | (simp_all; done) | (simp_all; omega)) (hK _ ?_)
    clear hK K
    refine WA.retE ty_ok (xs := [.agg [.lit (.int .i64 a), .lit (.int .i64 v)]]) (ls' := [.li 2 [.agg [L, .lit (.int .i64 (nxZ L (nxZ L c)))]]]) (rv := [.cell 4 46]) rfl hX (by simp) (fun _ => rfl) (fun _ _ h => ⟨((a, v), nxZ L (nxZ L c)), dc_nx hd6, h⟩) ?_
    simp only [go_sem, Nat.reduceAdd, Nat.reduceLT, Nat.reduceLeDiff, Nat.reduceEqDiff, Nat.reduceSub, Nat.reduceMul, Nat.reduceBEq, Nat.reduceBNe, Nat.reducePow, Nat.reduceDiv, Int.reduceLE, Int.reduceLT, Int.reduceToNat, Int.reduceNeg, Int.reduceAdd, Int.reduceSub, Int.reduceEq, reduceIte, reduceCtorEq, UInt8.reduceOfNat, hT]
  ·
    with_reducible refine WA.skipN ?_
    repeat first | with_reducible refine WN.t ?_ | with_reducible refine WN.b ?_
    refine WA.regionK ty_ok hs fun K hK => ?_
    simp only [go_sem, Nat.reduceAdd, Nat.reduceLT, Nat.reduceLeDiff, Nat.reduceEqDiff, Nat.reduceSub, Nat.reduceMul, Nat.reduceBEq, Nat.reduceBNe, Nat.reducePow, Nat.reduceDiv, Int.reduceLE, Int.reduceLT, Int.reduceToNat, Int.reduceNeg, Int.reduceAdd, Int.reduceSub, Int.reduceEq, reduceIte, reduceCtorEq, UInt8.reduceOfNat, true_and]
    first
    | refine hK _ ?_
    | refine And.intro (by first | omega | (simp; done) | (simp; omega) | (simp +contextual; done) | (simp_all; done) | (simp_all; omega)) (hK _ ?_)
    clear hK K
    refine WA.retE ty_ok (xs := [.agg [.lit (.int .i64 a), .lit (.int .i64 (nxI L b ((n : Int) + 1) - 1))]]) (ls' := [.li 2 [.agg [L, .lit (.int .i64 (nxZ L c))]]]) (rv := [.cell 4 46]) rfl hX (by simp) (fun _ => rfl) (fun _ _ h => ⟨((a, nxI L b ((n : Int) + 1) - 1), nxZ L c), hd6, h⟩) ?_
    simp only [go_sem, Nat.reduceAdd, Nat.reduceLT, Nat.reduceLeDiff, Nat.reduceEqDiff, Nat.reduceSub, Nat.reduceMul, Nat.reduceBEq, Nat.reduceBNe, Nat.reducePow, Nat.reduceDiv, Int.reduceLE, Int.reduceLT, Int.reduceToNat, Int.reduceNeg, Int.reduceAdd, Int.reduceSub, Int.reduceEq, reduceIte, reduceCtorEq, UInt8.reduceOfNat, hT]
end Go.Proofs.Ytnjmedihheblaaa
