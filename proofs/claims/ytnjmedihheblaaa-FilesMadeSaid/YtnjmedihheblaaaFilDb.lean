import Derived.Test.YtnjmedihheblaaaFilX
import Derived.Test.YtnjmedihheblaaaDiceB
namespace Go.Proofs.Ytnjmedihheblaaa
open Go.RowKit Go.TravelBase Go.TravelAbs
set_option linter.unusedVariables false
set_option linter.unusedSimpArgs false












/-! ### The dice's files, exactly -/
def sgDF : Sg := fun f args ls =>
  match f, args, ls with
  | 15, [.ptr 0 0 0, .lit (.int .i64 n)], [.li 2 [.agg [L, .lit (.int .i64 z)]]] => some (.lit (.int .i64 (nxI L z n)), [.li 2 [.agg [L, .lit (.int .i64 (nxZ L z))]]], DcOK L z ∧ 1 ≤ n ∧ n ≤ 4611686018427387904)
  | 24, [.ptr 0 0 0, .lit (.int .i64 n)], [.li 2 [.agg [L, .lit (.int .i64 z)]]] => some (.lit (.bool (nxI L z n == n - 1)), [.li 2 [.agg [L, .lit (.int .i64 (nxZ L z))]]], DcOK L z ∧ 1 ≤ n ∧ n ≤ 4611686018427387904)
  | 16, [.ptr 0 0 0, .lit (.int .i64 most)], [.li 2 [.agg [L, .lit (.int .i64 z)]]] => some (.fr (.by_ (dyB L z most)), [.li 2 [.agg [L, .lit (.int .i64 (dyZ L z most))]]], DcOK L z ∧ 0 ≤ most ∧ most ≤ 1000000)
  | 13, [.ptr 0 0 0], [.li 2 [.agg [L, .lit (.int .i64 z)]]] => some (.agg [.lit (.int .i64 (nxI L z 5)), .lit (.int .i64 (dAr L z))], [.li 2 [.agg [L, .lit (.int .i64 (dAz L z))]]], DcOK L z)
  | _, _, _ => none
theorem sgDF_ok : SgOK Try.prog sgDF := by
  intro f args ls r ls' vc h hvc
  unfold sgDF at h
  split at h <;> first | (simp only [Option.some.injEq, Prod.mk.injEq] at h; obtain ⟨rfl, rfl, rfl⟩ := h) | cases h
  · exact ⟨(fnOK Try.func15 (by decide) rfl), next_s _ _ _ hvc.1 hvc.2.1 hvc.2.2⟩
  · exact ⟨(fnOK Try.func24 (by decide) rfl), one_s _ _ _ hvc.1 hvc.2.1 hvc.2.2⟩
  · exact ⟨(fnOK Try.func16 (by decide) rfl), bytes_s _ _ _ hvc.1 hvc.2.1 hvc.2.2⟩
  · exact ⟨(fnOK Try.func13 (by decide) rfl), daccess_s _ _ hvc⟩
theorem TrC_fls (l : List Fl) : TrC (.li 5 (l.map flA)) = True := eq_true (TrC.li fun x hx y hy => by
  obtain ⟨f, _, rfl⟩ := List.mem_map.1 hx
  simp only [flA, AV.cl, List.mem_cons, List.not_mem_nil, or_false] at hy
  rcases hy with rfl | rfl | rfl | rfl | rfl <;> first | exact Tr.lit _ | exact Tr.by_ _)
def fl1 (L : AV) (k : Nat) (z : Int) : Fl := ⟨256 + k, bif nxI L (dAz L (dyZ L z 60)) 2 == 2 - 1 then 1 + k else 0, dyB L z 60, nxI L (dyZ L z 60) 5, dAr L (dyZ L z 60)⟩
def fl1Z (L : AV) (z : Int) : Int := nxZ L (dAz L (dyZ L z 60))
def flsD (L : AV) : Nat → Nat → Int → List Fl
  | 0, _, _ => []
  | n + 1, k, z => fl1 L k z :: flsD L n (k + 1) (fl1Z L z)
def flsZ (L : AV) : Nat → Int → Int
  | 0, z => z
  | n + 1, z => flsZ L n (fl1Z L z)
def dfl (L : AV) (z : Int) : List Fl := flsD L (nxI L z 5).toNat 0 (nxZ L z)
def dflZ (L : AV) (z : Int) : Int := flsZ L (nxI L z 5).toNat (nxZ L z)
theorem flsD_len (L : AV) : ∀ (n k : Nat) (z : Int), (flsD L n k z).length = n
  | 0, _, _ => rfl
  | n + 1, k, z => by rw [flsD, List.length_cons, flsD_len L n]
theorem dfl_len (L : AV) (z : Int) : (dfl L z).length ≤ 4 := by
  have := nx_rng L z 5 (by omega)
  rw [dfl, flsD_len]
  omega
theorem dc_fls {L : AV} : ∀ (n : Nat) {z : Int}, DcOK L z → DcOK L (flsZ L n z)
  | 0, _, h => h
  | n + 1, _, h => dc_fls n (dc_nx (dc_Az (dc_dy h)))
theorem dc_dfl {L : AV} {z : Int} (h : DcOK L z) : DcOK L (dflZ L z) := dc_fls _ (dc_nx h)
theorem dfiles_s (L : AV) (z : Int) (hd : DcOK L z) : FnS Try.prog 40 [.ptr 0 0 0] [.li 2 [.agg [L, .lit (.int .i64 z)]]] (.fr (.li 5 ((dfl L z).map flA))) [.li 2 [.agg [L, .lit (.int .i64 (dflZ L z))]]] := by
  have hs := sgDF_ok
  have hT := hd.tr
  have hr := nx_rng L z 5 (by omega)
  obtain ⟨a, ha⟩ := Int.eq_ofNat_of_zero_le hr.1
  rw [ha] at hr
  have hd0 := dc_nx hd
  have eB : dfl L z = flsD L a 0 (nxZ L z) := by rw [dfl, ha]; rfl
  have eZ : dflZ L z = flsZ L a (nxZ L z) := by rw [dflZ, ha]; rfl
  rw [eB, eZ]
  obtain ⟨b, hb⟩ : ∃ b, nxZ L z = b := ⟨_, rfl⟩
  rw [hb] at hd0 ⊢
  refine FnS.of Try.func40 rfl (N := 32) rfl (by simp) (by simp) fun X hX => ?_
  simp only [tmArgs, lentH, Nat.reduceAdd]
  refine WA.regionK ty_ok hs fun K hK => ?_
  simp only [go_sem, Nat.reduceAdd, Nat.reduceLT, Nat.reduceLeDiff, Nat.reduceEqDiff, Nat.reduceSub, Nat.reduceMul, Nat.reduceBEq, Nat.reduceBNe, Nat.reducePow, Nat.reduceDiv, Int.reduceLE, Int.reduceLT, Int.reduceToNat, Int.reduceNeg, Int.reduceAdd, Int.reduceSub, Int.reduceEq, reduceIte, reduceCtorEq, UInt8.reduceOfNat, true_and]
  first
  | refine hK _ ?_
  | refine And.intro (by first | omega | (simp; done) | (simp; omega) | (simp +contextual; done) | (simp_all; done) | (simp_all; omega)) (hK _ ?_)
  clear hK K
  refine WA.regionK ty_ok hs fun K hK => ?_
  simp only [go_sem, Nat.reduceAdd, Nat.reduceLT, Nat.reduceLeDiff, Nat.reduceEqDiff, Nat.reduceSub, Nat.reduceMul, Nat.reduceBEq, Nat.reduceBNe, Nat.reducePow, Nat.reduceDiv, Int.reduceLE, Int.reduceLT, Int.reduceToNat, Int.reduceNeg, Int.reduceAdd, Int.reduceSub, Int.reduceEq, reduceIte, reduceCtorEq, UInt8.reduceOfNat, true_and]
  first
  | refine hK _ ?_
  | refine And.intro (by first | omega | (simp; done) | (simp; omega) | (simp +contextual; done) | (simp_all; done) | (simp_all; omega)) (hK _ ?_)
  clear hK K
  refine WA.own0 3 (.li 5 []) rfl rfl ?_
  refine WA.seq ?_
  refine WA.regionK ty_ok hs fun K hK => ?_
  simp only [go_sem, Nat.reduceAdd, Nat.reduceLT, Nat.reduceLeDiff, Nat.reduceEqDiff, Nat.reduceSub, Nat.reduceMul, Nat.reduceBEq, Nat.reduceBNe, Nat.reducePow, Nat.reduceDiv, Int.reduceLE, Int.reduceLT, Int.reduceToNat, Int.reduceNeg, Int.reduceAdd, Int.reduceSub, Int.reduceEq, reduceIte, reduceCtorEq, UInt8.reduceOfNat, sgDF, hd, hT, ha, hb]
  first
  | refine hK _ ?_
  | refine And.intro (by first | omega | (simp; done) | (simp; omega) | (simp +contextual; done) | (simp_all; done) | (simp_all; omega)) (hK _ ?_)
  clear hK K
  refine WA.block ?_
  refine WA.loopW hX (fun k => if k = 3000 then 2016 else k) ((fun (i : List Fl × Nat × Int) => ⟨[(0, .ptr 0 0 0), (3, .sl 3000 5 0 i.1.length), (4, .lit (.int .i64 (i.2.1 : Nat)))], [(3000, ⟨.li 5 (i.1.map flA), 0, false⟩), (0, ⟨.li 2 [.agg [L, .lit (.int .i64 i.2.2)]], 0, true⟩)], 4000, 32⟩ : _ → St)) (fun i => i.2.1) (fun i => (i.1 ++ flsD L i.2.1 i.1.length i.2.2 = flsD L a 0 b ∧ flsZ L i.2.1 i.2.2 = flsZ L a b) ∧ i.1.length + i.2.1 = a ∧ DcOK L i.2.2) (i0 := ([], a, b)) (⟨⟨rfl, rfl⟩, by simp, hd0⟩) (by simp only [go_sem, Int.natCast_add, Nat.reduceAdd, Nat.reduceLT, Nat.reduceLeDiff, Nat.reduceEqDiff, Nat.reduceSub, Nat.reduceMul, Nat.reduceBEq, Nat.reduceBNe, Nat.reducePow, Nat.reduceDiv, Int.reduceLE, Int.reduceLT, Int.reduceToNat, Int.reduceNeg, Int.reduceAdd, Int.reduceSub, Int.reduceEq, reduceIte, reduceCtorEq, UInt8.reduceOfNat, hT] <;> (try and_intros) <;> (try omega)) fun ⟨l, n, z⟩ hi => ?_
  simp only at hi
  obtain ⟨⟨hi1, hi2⟩, hi, hd2⟩ := hi
  refine WA.seq ?_
  refine WA.regionK ty_ok hs fun K hK => ?_
  simp only [go_sem, Nat.reduceAdd, Nat.reduceLT, Nat.reduceLeDiff, Nat.reduceEqDiff, Nat.reduceSub, Nat.reduceMul, Nat.reduceBEq, Nat.reduceBNe, Nat.reducePow, Nat.reduceDiv, Int.reduceLE, Int.reduceLT, Int.reduceToNat, Int.reduceNeg, Int.reduceAdd, Int.reduceSub, Int.reduceEq, reduceIte, reduceCtorEq, UInt8.reduceOfNat, true_and]
  first
  | refine hK _ ?_
  | refine And.intro (by first | omega | (simp; done) | (simp; omega) | (simp +contextual; done) | (simp_all; done) | (simp_all; omega)) (hK _ ?_)
  clear hK K
  refine WA.cond rfl (fun h => ?_) (fun h => ?_)
  ·
    with_reducible refine WA.skipN ?_
    repeat first | with_reducible refine WN.t ?_ | with_reducible refine WN.b ?_
    have h6 : 0 < n := by have := of_decide_eq_true h; omega
    clear h
    have u1 : flsD L n l.length z = fl1 L l.length z :: flsD L (n - 1) (l.length + 1) (fl1Z L z) := by
      obtain ⟨m, rfl⟩ : ∃ m, n = m + 1 := ⟨n - 1, by omega⟩
      rfl
    have u2 : flsZ L n z = flsZ L (n - 1) (fl1Z L z) := by
      obtain ⟨m, rfl⟩ : ∃ m, n = m + 1 := ⟨n - 1, by omega⟩
      rfl
    have hd3 : DcOK L (dyZ L z 60) := dc_dy hd2
    have hd4 := dc_Az hd3
    have hd5 := dc_nx hd4
    have hl60 := dyB_len L z 60 (by omega)
    have hc : ((l ++ [fl1 L l.length z]) ++ flsD L (n - 1) (l ++ [fl1 L l.length z]).length (fl1Z L z) = flsD L a 0 b ∧ flsZ L (n - 1) (fl1Z L z) = flsZ L a b) ∧ (l ++ [fl1 L l.length z]).length + (n - 1) = a ∧ DcOK L (fl1Z L z) := by
      refine ⟨⟨by rw [← hi1, u1]; simp, by rw [← hi2, u2]⟩, by simp; omega, hd5⟩
    have t9 := TrC_fls (l ++ [fl1 L l.length z])
    refine WA.seq ?_
    refine WA.block ?_
    refine WA.regionK ty_ok hs fun K hK => ?_
    simp only [go_sem, Nat.reduceAdd, Nat.reduceLT, Nat.reduceLeDiff, Nat.reduceEqDiff, Nat.reduceSub, Nat.reduceMul, Nat.reduceBEq, Nat.reduceBNe, Nat.reducePow, Nat.reduceDiv, Int.reduceLE, Int.reduceLT, Int.reduceToNat, Int.reduceNeg, Int.reduceAdd, Int.reduceSub, Int.reduceEq, reduceIte, reduceCtorEq, UInt8.reduceOfNat, true_and]
    first
    | refine hK _ ?_
    | refine And.intro (by first | omega | (simp; done) | (simp; omega) | (simp +contextual; done) | (simp_all; done) | (simp_all; omega)) (hK _ ?_)
    clear hK K
    refine WA.regionK ty_ok hs fun K hK => ?_
    simp only [go_sem, Nat.reduceAdd, Nat.reduceLT, Nat.reduceLeDiff, Nat.reduceEqDiff, Nat.reduceSub, Nat.reduceMul, Nat.reduceBEq, Nat.reduceBNe, Nat.reducePow, Nat.reduceDiv, Int.reduceLE, Int.reduceLT, Int.reduceToNat, Int.reduceNeg, Int.reduceAdd, Int.reduceSub, Int.reduceEq, reduceIte, reduceCtorEq, UInt8.reduceOfNat, sgDF, hd2, hd3, hT]
    first
    | refine hK _ ?_
    | refine And.intro (by first | omega | (simp; done) | (simp; omega) | (simp +contextual; done) | (simp_all; done) | (simp_all; omega)) (hK _ ?_)
    clear hK K
    refine WA.norm 4096 fun K hK => ?_
    simp only [go_sem, Nat.reduceAdd, Nat.reduceLT, Nat.reduceLeDiff, Nat.reduceEqDiff, Nat.reduceSub, Nat.reduceMul, Nat.reduceBEq, Nat.reduceBNe, Nat.reducePow, Nat.reduceDiv, Int.reduceLE, Int.reduceLT, Int.reduceToNat, Int.reduceNeg, Int.reduceAdd, Int.reduceSub, Int.reduceEq, reduceIte, reduceCtorEq, UInt8.reduceOfNat, true_and]
    first
    | refine hK _ ?_
    | refine And.intro (by first | omega | (simp; done) | (simp; omega) | (simp_all; done) | (simp_all; omega)) (hK _ ?_)
    clear hK K
    refine WA.seq ?_
    refine WA.regionK ty_ok hs fun K hK => ?_
    simp only [go_sem, Nat.reduceAdd, Nat.reduceLT, Nat.reduceLeDiff, Nat.reduceEqDiff, Nat.reduceSub, Nat.reduceMul, Nat.reduceBEq, Nat.reduceBNe, Nat.reducePow, Nat.reduceDiv, Int.reduceLE, Int.reduceLT, Int.reduceToNat, Int.reduceNeg, Int.reduceAdd, Int.reduceSub, Int.reduceEq, reduceIte, reduceCtorEq, UInt8.reduceOfNat, sgDF, hd4, hT]
    first
    | refine hK _ ?_
    | refine And.intro (by first | omega | (simp; done) | (simp; omega) | (simp +contextual; done) | (simp_all; done) | (simp_all; omega)) (hK _ ?_)
    clear hK K
    refine WA.cond rfl (fun h => ?_) (fun h => ?_)
    ·
      have e1 : fl1 L l.length z = ⟨256 + l.length, 1 + l.length, dyB L z 60, nxI L (dyZ L z 60) 5, dAr L (dyZ L z 60)⟩ := by
        have h : (nxI L (dAz L (dyZ L z 60)) 2 == 2 - 1) = true := h
        unfold fl1; rw [h]; rfl
      refine WA.regionE ty_ok hs fun K hK => ?_
      simp only [go_sem, Nat.reduceAdd, Nat.reduceLT, Nat.reduceLeDiff, Nat.reduceEqDiff, Nat.reduceSub, Nat.reduceMul, Nat.reduceBEq, Nat.reduceBNe, Nat.reducePow, Nat.reduceDiv, Int.reduceLE, Int.reduceLT, Int.reduceToNat, Int.reduceNeg, Int.reduceAdd, Int.reduceSub, Int.reduceEq, reduceIte, reduceCtorEq, UInt8.reduceOfNat, true_and]
      repeat refine And.intro (by first | omega | assumption | (simp; done) | (simp; omega) | (simp +contextual; done) | (simp_all; done) | (simp_all; omega)) ?_
      with_reducible refine hK _ (WN.mk ?_)
      clear hK K
      repeat first | with_reducible refine WN.t ?_ | with_reducible refine WN.b ?_
      refine WA.regionE ty_ok hs fun K hK => ?_
      simp only [go_sem, Nat.reduceAdd, Nat.reduceLT, Nat.reduceLeDiff, Nat.reduceEqDiff, Nat.reduceSub, Nat.reduceMul, Nat.reduceBEq, Nat.reduceBNe, Nat.reducePow, Nat.reduceDiv, Int.reduceLE, Int.reduceLT, Int.reduceToNat, Int.reduceNeg, Int.reduceAdd, Int.reduceSub, Int.reduceEq, reduceIte, reduceCtorEq, UInt8.reduceOfNat, true_and]
      repeat refine And.intro (by first | omega | assumption | (simp; done) | (simp; omega) | (simp +contextual; done) | (simp_all; done) | (simp_all; omega)) ?_
      with_reducible refine hK _ (WN.mk ?_)
      clear hK K
      repeat first | with_reducible refine WN.t ?_ | with_reducible refine WN.b ?_
      refine WA.regionE ty_ok hs fun K hK => ?_
      simp only [go_sem, Nat.reduceAdd, Nat.reduceLT, Nat.reduceLeDiff, Nat.reduceEqDiff, Nat.reduceSub, Nat.reduceMul, Nat.reduceBEq, Nat.reduceBNe, Nat.reducePow, Nat.reduceDiv, Int.reduceLE, Int.reduceLT, Int.reduceToNat, Int.reduceNeg, Int.reduceAdd, Int.reduceSub, Int.reduceEq, reduceIte, reduceCtorEq, UInt8.reduceOfNat, true_and]
      repeat refine And.intro (by first | omega | assumption | (simp; done) | (simp; omega) | (simp +contextual; done) | (simp_all; done) | (simp_all; omega)) ?_
      simp only [List.map_append, List.map_cons, List.map_nil, flA, e1] at t9
      refine hK _ (roundE hX (fun k => if k = 3000 then 4184 else k) (j := (l ++ [fl1 L l.length z], n - 1, fl1Z L z)) (hc) (by first | omega | (dsimp only; omega) | (simp; omega)) (by simp only [go_sem, Int.natCast_add, Nat.reduceAdd, Nat.reduceLT, Nat.reduceLeDiff, Nat.reduceEqDiff, Nat.reduceSub, Nat.reduceMul, Nat.reduceBEq, Nat.reduceBNe, Nat.reducePow, Nat.reduceDiv, Int.reduceLE, Int.reduceLT, Int.reduceToNat, Int.reduceNeg, Int.reduceAdd, Int.reduceSub, Int.reduceEq, reduceIte, reduceCtorEq, UInt8.reduceOfNat, hT, List.map_append, List.map_cons, List.map_nil, List.length_append, List.length_cons, List.length_nil, flA, t9, e1, fl1Z] <;> (try and_intros) <;> (try omega)))
    ·
      have e1 : fl1 L l.length z = ⟨256 + l.length, 0, dyB L z 60, nxI L (dyZ L z 60) 5, dAr L (dyZ L z 60)⟩ := by
        have h : (nxI L (dAz L (dyZ L z 60)) 2 == 2 - 1) = false := h
        unfold fl1; rw [h]; rfl
      with_reducible refine WA.skipN ?_
      repeat first | with_reducible refine WN.t ?_ | with_reducible refine WN.b ?_
      refine WA.regionE ty_ok hs fun K hK => ?_
      simp only [go_sem, Nat.reduceAdd, Nat.reduceLT, Nat.reduceLeDiff, Nat.reduceEqDiff, Nat.reduceSub, Nat.reduceMul, Nat.reduceBEq, Nat.reduceBNe, Nat.reducePow, Nat.reduceDiv, Int.reduceLE, Int.reduceLT, Int.reduceToNat, Int.reduceNeg, Int.reduceAdd, Int.reduceSub, Int.reduceEq, reduceIte, reduceCtorEq, UInt8.reduceOfNat, true_and]
      repeat refine And.intro (by first | omega | assumption | (simp; done) | (simp; omega) | (simp +contextual; done) | (simp_all; done) | (simp_all; omega)) ?_
      with_reducible refine hK _ (WN.mk ?_)
      clear hK K
      repeat first | with_reducible refine WN.t ?_ | with_reducible refine WN.b ?_
      refine WA.regionE ty_ok hs fun K hK => ?_
      simp only [go_sem, Nat.reduceAdd, Nat.reduceLT, Nat.reduceLeDiff, Nat.reduceEqDiff, Nat.reduceSub, Nat.reduceMul, Nat.reduceBEq, Nat.reduceBNe, Nat.reducePow, Nat.reduceDiv, Int.reduceLE, Int.reduceLT, Int.reduceToNat, Int.reduceNeg, Int.reduceAdd, Int.reduceSub, Int.reduceEq, reduceIte, reduceCtorEq, UInt8.reduceOfNat, true_and]
      repeat refine And.intro (by first | omega | assumption | (simp; done) | (simp; omega) | (simp +contextual; done) | (simp_all; done) | (simp_all; omega)) ?_
      simp only [List.map_append, List.map_cons, List.map_nil, flA, e1] at t9
      refine hK _ (roundE hX (fun k => if k = 3000 then 4152 else k) (j := (l ++ [fl1 L l.length z], n - 1, fl1Z L z)) (hc) (by first | omega | (dsimp only; omega) | (simp; omega)) (by simp only [go_sem, Int.natCast_add, Nat.reduceAdd, Nat.reduceLT, Nat.reduceLeDiff, Nat.reduceEqDiff, Nat.reduceSub, Nat.reduceMul, Nat.reduceBEq, Nat.reduceBNe, Nat.reducePow, Nat.reduceDiv, Int.reduceLE, Int.reduceLT, Int.reduceToNat, Int.reduceNeg, Int.reduceAdd, Int.reduceSub, Int.reduceEq, reduceIte, reduceCtorEq, UInt8.reduceOfNat, hT, List.map_append, List.map_cons, List.map_nil, List.length_append, List.length_cons, List.length_nil, flA, t9, e1, fl1Z] <;> (try and_intros) <;> (try omega)))
  ·
    with_reducible refine WA.exitX ?_
    repeat first | with_reducible refine WX.b ?_ | with_reducible refine WX.t ?_ | (with_reducible refine WX.n ?hne ?_; case hne => rfl)
    have h6 : n = 0 := by have := of_decide_eq_false h; omega
    subst h6
    simp only [flsD, flsZ, List.append_nil] at hi1 hi2
    rw [← hi1, ← hi2]
    refine WA.regionK ty_ok hs fun K hK => ?_
    simp only [go_sem, Nat.reduceAdd, Nat.reduceLT, Nat.reduceLeDiff, Nat.reduceEqDiff, Nat.reduceSub, Nat.reduceMul, Nat.reduceBEq, Nat.reduceBNe, Nat.reducePow, Nat.reduceDiv, Int.reduceLE, Int.reduceLT, Int.reduceToNat, Int.reduceNeg, Int.reduceAdd, Int.reduceSub, Int.reduceEq, reduceIte, reduceCtorEq, UInt8.reduceOfNat, true_and]
    first
    | refine hK _ ?_
    | refine And.intro (by first | omega | (simp; done) | (simp; omega) | (simp +contextual; done) | (simp_all; done) | (simp_all; omega)) (hK _ ?_)
    clear hK K
    refine WA.retE ty_ok (xs := [.fr (.li 5 (l.map flA))]) (ls' := [.li 2 [.agg [L, .lit (.int .i64 z)]]]) (rv := [.tmp 2]) rfl hX (by simp) (fun _ => rfl) (fun _ _ h => h) ?_
    simp only [go_sem, Nat.reduceAdd, Nat.reduceLT, Nat.reduceLeDiff, Nat.reduceEqDiff, Nat.reduceSub, Nat.reduceMul, Nat.reduceBEq, Nat.reduceBNe, Nat.reducePow, Nat.reduceDiv, Int.reduceLE, Int.reduceLT, Int.reduceToNat, Int.reduceNeg, Int.reduceAdd, Int.reduceSub, Int.reduceEq, reduceIte, reduceCtorEq, UInt8.reduceOfNat, hT, TrC_fls]
end Go.Proofs.Ytnjmedihheblaaa
