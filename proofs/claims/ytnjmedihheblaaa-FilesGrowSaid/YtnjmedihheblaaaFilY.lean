import Derived.Test.YtnjmedihheblaaaFilX
namespace Go.Proofs.Ytnjmedihheblaaa
open Go.RowKit Go.TravelBase Go.TravelAbs
set_option linter.unusedVariables false
set_option linter.unusedSimpArgs false











/-! ### The law FilesGrow -/
theorem bitS_nat (n : Nat) (r : Int) (hn : n < 9223372036854775808) : bitS n r = n.testBit r.toNat := by
  unfold bitS
  have e : ((n : Nat) : Int).fdiv (2 ^ r.toNat) = ((n / 2 ^ r.toNat : Nat) : Int) := by
    have h2 : ((2 : Int) ^ r.toNat) = ((2 ^ r.toNat : Nat) : Int) := by simp
    rw [h2, Int.fdiv_eq_ediv_of_nonneg _ (Int.natCast_nonneg _)]
    rfl
  rw [e, show (1 : Int) = ((1 : Nat) : Int) from rfl, and_i64 _ _ (Nat.lt_of_le_of_lt (Nat.div_le_self _ _) hn) (by decide), Nat.testBit_eq_decide_div_mod_eq, Nat.and_one_is_mod]
  by_cases h : n / 2 ^ r.toNat % 2 = 1
  · rw [h]; rfl
  · rw [decide_eq_false h]
    have : n / 2 ^ r.toNat % 2 = 0 := by omega
    rw [this]; rfl
theorem bitS_or (R r : Int) (k : Nat) (h0 : 0 ≤ R) (h1 : R < 65536) (hk : k < 16) (h : bitS R r = true) : bitS (bits .or .i64 R ((2 ^ k : Nat) : Int)) r = true := by
  obtain ⟨n, rfl⟩ := Int.eq_ofNat_of_zero_le h0
  have hn : n < 2 ^ 16 := by omega
  have hp : 2 ^ k < 2 ^ 16 := Nat.pow_lt_pow_right (by decide) hk
  rw [bitS_nat n r (by omega)] at h
  rw [or_i64 n (2 ^ k) (by omega) (by omega)]
  have ho : n ||| 2 ^ k < 2 ^ 16 := Nat.or_lt_two_pow hn hp
  rw [bitS_nat _ r (by omega), Nat.testBit_or, h]
  rfl
theorem alw_mono {l r : Int} {s t : Stt} (h : alw l r s = true) (h1 : t.pw = s.pw) (h2 : s.chip = true → t.chip = true) (h3 : s.term = true → t.term = true) (h4 : bitS s.rights r = true → bitS t.rights r = true) : alw l r t = true := by
  have hw : wordS t = wordS s := by unfold wordS; rw [h1]
  unfold alw at h ⊢
  rw [hw]
  by_cases q0 : l = 0
  · rw [if_pos q0]
  rw [if_neg q0] at h ⊢
  by_cases q1 : l = 1
  · rw [if_pos q1] at h ⊢; exact h
  rw [if_neg q1] at h ⊢
  by_cases q2 : l = 2
  · rw [if_pos q2] at h ⊢
    simp only [Bool.and_eq_true] at h ⊢
    exact ⟨h.1, h2 h.2⟩
  rw [if_neg q2] at h ⊢
  by_cases q3 : l = 3
  · rw [if_pos q3] at h ⊢
    simp only [Bool.and_eq_true] at h ⊢
    exact ⟨⟨⟨⟨h.1.1.1.1, h2 h.1.1.1.2⟩, h3 h.1.1.2⟩, h.1.2⟩, h4 h.2⟩
  · rw [if_neg q3] at h; cases h
theorem dc_Sz {L : AV} {z : Int} (h : DcOK L z) : DcOK L (dSz L z) := dc_nx (dc_nx (dc_nx (dc_nx (dc_nx h))))
def sgGr : Sg := fun f args ls =>
  match f, args, ls with
  | 11, [.li 1 xs], [] => some (.lit (.bool (decide ((xs.length : Int) ≤ 400))), [], True)
  | 12, [.li 1 xs], [] => some (.fr (.opt true (.li 2 [.agg [.li 1 xs, .lit (.int .i64 0)]])), [], Tr (.li 1 xs) = True)
  | 8, [], [] => some (.lit (.bool true), [], True)
  | 9, [.agg [.lit (.int .i64 l), .lit (.int .i64 r)], .agg [.lit (.int .i64 pw), .lit (.bool b1), .lit (.bool ch), .lit (.bool tm), .lit (.int .i64 rg)]], [] => some (.lit (.bool (alw l r ⟨pw, b1, ch, tm, rg⟩)), [], True)
  | 10, [.agg [.lit (.int .i64 l), .lit (.int .i64 r)], .agg [.lit (.int .i64 pw), .lit (.bool b1), .lit (.bool ch), .lit (.bool tm), .lit (.int .i64 rg)]], [] => some (.lit (.bool (alw l r ⟨pw, b1, ch, tm, rg⟩)), [], True)
  | 15, [.ptr 0 0 0, .lit (.int .i64 n)], [.li 2 [.agg [L, .lit (.int .i64 z)]]] => some (.lit (.int .i64 (nxI L z n)), [.li 2 [.agg [L, .lit (.int .i64 (nxZ L z))]]], DcOK L z ∧ 1 ≤ n ∧ n ≤ 4611686018427387904)
  | 13, [.ptr 0 0 0], [.li 2 [.agg [L, .lit (.int .i64 z)]]] => some (.agg [.lit (.int .i64 (nxI L z 5)), .lit (.int .i64 (dAr L z))], [.li 2 [.agg [L, .lit (.int .i64 (dAz L z))]]], DcOK L z)
  | 14, [.ptr 0 0 0], [.li 2 [.agg [L, .lit (.int .i64 z)]]] => some (.agg [.lit (.int .i64 (dSt L z).pw), .lit (.bool (dSt L z).b1), .lit (.bool (dSt L z).chip), .lit (.bool (dSt L z).term), .lit (.int .i64 (dSt L z).rights)], [.li 2 [.agg [L, .lit (.int .i64 (dSz L z))]]], DcOK L z)
  | _, _, _ => none
theorem sgGr_ok : SgOK Try.prog sgGr := by
  intro f args ls r ls' vc h hvc
  unfold sgGr at h
  split at h <;> first | (simp only [Option.some.injEq, Prod.mk.injEq] at h; obtain ⟨rfl, rfl, rfl⟩ := h) | cases h
  · exact ⟨(fnOK Try.func11 (by decide) rfl), light_s _⟩
  · exact ⟨(fnOK Try.func12 (by decide) rfl), roll_s _ hvc⟩
  · exact ⟨(fnOK Try.func8 (by decide) rfl), awake_s⟩
  · rename_i l r pw b1 ch tm rg
    exact ⟨(fnOK Try.func9 (by decide) rfl), allowed_s l r ⟨pw, b1, ch, tm, rg⟩⟩
  · rename_i l r pw b1 ch tm rg
    exact ⟨(fnOK Try.func10 (by decide) rfl), rallowed_s l r ⟨pw, b1, ch, tm, rg⟩⟩
  · exact ⟨(fnOK Try.func15 (by decide) rfl), next_s _ _ _ hvc.1 hvc.2.1 hvc.2.2⟩
  · exact ⟨(fnOK Try.func13 (by decide) rfl), daccess_s _ _ hvc⟩
  · exact ⟨(fnOK Try.func14 (by decide) rfl), dstate_s _ _ hvc⟩
theorem grow_s (l : List Int) (hl : ∀ y ∈ l, -9223372036854775808 ≤ y ∧ y ≤ 9223372036854775807) : FnS Try.prog 4 [.li 1 (l.map iA)] [] (.lit (.bool true)) [] := by
  have hs := sgGr_ok
  have hT := Tr_ia l
  refine FnS.of Try.func4 rfl (N := 63) rfl (by simp) (by simp) fun X hX => ?_
  simp only [tmArgs, lentH, Nat.reduceAdd]
  refine WA.regionK ty_ok hs fun K hK => ?_
  simp only [go_sem, Nat.reduceAdd, Nat.reduceLT, Nat.reduceLeDiff, Nat.reduceEqDiff, Nat.reduceSub, Nat.reduceMul, Nat.reduceBEq, Nat.reduceBNe, Nat.reducePow, Nat.reduceDiv, Int.reduceLE, Int.reduceLT, Int.reduceToNat, Int.reduceNeg, Int.reduceAdd, Int.reduceSub, Int.reduceEq, reduceIte, reduceCtorEq, UInt8.reduceOfNat, sgGr]
  first
  | refine hK _ ?_
  | refine And.intro (by first | omega | (simp; done) | (simp; omega) | (simp +contextual; done) | (simp_all; done) | (simp_all; omega)) (hK _ ?_)
  clear hK K
  refine WA.seq ?_
  refine WA.regionK ty_ok hs fun K hK => ?_
  simp only [go_sem, Nat.reduceAdd, Nat.reduceLT, Nat.reduceLeDiff, Nat.reduceEqDiff, Nat.reduceSub, Nat.reduceMul, Nat.reduceBEq, Nat.reduceBNe, Nat.reducePow, Nat.reduceDiv, Int.reduceLE, Int.reduceLT, Int.reduceToNat, Int.reduceNeg, Int.reduceAdd, Int.reduceSub, Int.reduceEq, reduceIte, reduceCtorEq, UInt8.reduceOfNat, sgGr]
  first
  | refine hK _ ?_
  | refine And.intro (by first | omega | (simp; done) | (simp; omega) | (simp +contextual; done) | (simp_all; done) | (simp_all; omega)) (hK _ ?_)
  clear hK K
  refine WA.cond rfl (fun h => ?_) (fun h => ?_)
  ·
    refine WA.regionK ty_ok hs fun K hK => ?_
    simp only [go_sem, Nat.reduceAdd, Nat.reduceLT, Nat.reduceLeDiff, Nat.reduceEqDiff, Nat.reduceSub, Nat.reduceMul, Nat.reduceBEq, Nat.reduceBNe, Nat.reducePow, Nat.reduceDiv, Int.reduceLE, Int.reduceLT, Int.reduceToNat, Int.reduceNeg, Int.reduceAdd, Int.reduceSub, Int.reduceEq, reduceIte, reduceCtorEq, UInt8.reduceOfNat, sgGr]
    first
    | refine hK _ ?_
    | refine And.intro (by first | omega | (simp; done) | (simp; omega) | (simp +contextual; done) | (simp_all; done) | (simp_all; omega)) (hK _ ?_)
    clear hK K
    refine WA.retE ty_ok (xs := [.lit (.bool true)]) (ls' := []) (rv := [.tmp 2]) rfl hX (by decide) (fun _ => rfl) (fun _ _ h => h) ?_
    simp only [go_sem, Nat.reduceAdd, Nat.reduceLT, Nat.reduceLeDiff, Nat.reduceEqDiff, Nat.reduceSub, Nat.reduceMul, Nat.reduceBEq, Nat.reduceBNe, Nat.reducePow, Nat.reduceDiv, Int.reduceLE, Int.reduceLT, Int.reduceToNat, Int.reduceNeg, Int.reduceAdd, Int.reduceSub, Int.reduceEq, reduceIte, reduceCtorEq, UInt8.reduceOfNat, sbT]
  ·
    with_reducible refine WA.skipN ?_
    repeat first | with_reducible refine WN.t ?_ | with_reducible refine WN.b ?_
    have h6 : l.length ≤ 400 := by simp at h; omega
    have hd := dc_roll hl h6
    clear h
    have hdA := dc_Az hd
    have hdS := dc_Sz hdA
    refine WA.regionK ty_ok hs fun K hK => ?_
    simp only [go_sem, Nat.reduceAdd, Nat.reduceLT, Nat.reduceLeDiff, Nat.reduceEqDiff, Nat.reduceSub, Nat.reduceMul, Nat.reduceBEq, Nat.reduceBNe, Nat.reducePow, Nat.reduceDiv, Int.reduceLE, Int.reduceLT, Int.reduceToNat, Int.reduceNeg, Int.reduceAdd, Int.reduceSub, Int.reduceEq, reduceIte, reduceCtorEq, UInt8.reduceOfNat, sgGr, hT]
    first
    | refine hK _ ?_
    | refine And.intro (by first | omega | (simp; done) | (simp; omega) | (simp +contextual; done) | (simp_all; done) | (simp_all; omega)) (hK _ ?_)
    clear hK K
    refine WA.regionK ty_ok hs fun K hK => ?_
    simp only [go_sem, Nat.reduceAdd, Nat.reduceLT, Nat.reduceLeDiff, Nat.reduceEqDiff, Nat.reduceSub, Nat.reduceMul, Nat.reduceBEq, Nat.reduceBNe, Nat.reducePow, Nat.reduceDiv, Int.reduceLE, Int.reduceLT, Int.reduceToNat, Int.reduceNeg, Int.reduceAdd, Int.reduceSub, Int.reduceEq, reduceIte, reduceCtorEq, UInt8.reduceOfNat, sgGr, hT, hd, hdA]
    first
    | refine hK _ ?_
    | refine And.intro (by first | omega | (simp; done) | (simp; omega) | (simp +contextual; done) | (simp_all; done) | (simp_all; omega)) (hK _ ?_)
    clear hK K
    obtain ⟨s, hs1⟩ : ∃ s, dSt (.li 1 (l.map iA)) (dAz (.li 1 (l.map iA)) 0) = s := ⟨_, rfl⟩
    obtain ⟨lv, hs2⟩ : ∃ v, nxI (.li 1 (l.map iA)) 0 5 = v := ⟨_, rfl⟩
    obtain ⟨rv, hs3⟩ : ∃ v, dAr (.li 1 (l.map iA)) 0 = v := ⟨_, rfl⟩
    obtain ⟨z2, hs4⟩ : ∃ v, dSz (.li 1 (l.map iA)) (dAz (.li 1 (l.map iA)) 0) = v := ⟨_, rfl⟩
    have hR : 0 ≤ s.rights ∧ s.rights < 65536 := by rw [← hs1]; exact nx_rng _ _ 65536 (by decide)
    rw [hs1, hs2, hs3, hs4]
    rw [hs4] at hdS
    have hS : (⟨s.pw, s.b1, s.chip, s.term, s.rights⟩ : Stt) = s := rfl
    refine WA.regionK ty_ok hs fun K hK => ?_
    simp only [go_sem, Nat.reduceAdd, Nat.reduceLT, Nat.reduceLeDiff, Nat.reduceEqDiff, Nat.reduceSub, Nat.reduceMul, Nat.reduceBEq, Nat.reduceBNe, Nat.reducePow, Nat.reduceDiv, Int.reduceLE, Int.reduceLT, Int.reduceToNat, Int.reduceNeg, Int.reduceAdd, Int.reduceSub, Int.reduceEq, reduceIte, reduceCtorEq, UInt8.reduceOfNat, sgGr, hS]
    first
    | refine hK _ ?_
    | refine And.intro (by first | omega | (simp; done) | (simp; omega) | (simp +contextual; done) | (simp_all; done) | (simp_all; omega)) (hK _ ?_)
    clear hK K
    refine WA.drawnH mixed_ ty_ok hs (tbl := [[], [], [], [], [], [], [0, 3, 4, 5], [0, 1, 3, 4, 5, 6], [0, 1, 2, 3, 4, 5, 6, 7]]) (nb := [0, 1, 2, 6, 7, 8]) (hk := [[], [2176], [2176, 2184], [], [], [], [], [], []]) (by kernel_rfl) fun K hK => ?_
    simp only [go_sem, Nat.reduceAdd, Nat.reduceLT, Nat.reduceLeDiff, Nat.reduceEqDiff, Nat.reduceSub, Nat.reduceMul, Nat.reduceBEq, Nat.reduceBNe, Nat.reducePow, Nat.reduceDiv, Int.reduceLE, Int.reduceLT, Int.reduceToNat, Int.reduceNeg, Int.reduceAdd, Int.reduceSub, Int.reduceEq, reduceIte, reduceCtorEq, UInt8.reduceOfNat, true_and]
    first
    | refine hK _ ?_
    | refine And.intro (by first | omega | (simp; done) | (simp; omega) | (simp +contextual; done) | (simp_all; done) | (simp_all; omega)) (hK _ ?_)
    clear hK K
    refine WA.regionK ty_ok hs fun K hK => ?_
    simp only [go_sem, Nat.reduceAdd, Nat.reduceLT, Nat.reduceLeDiff, Nat.reduceEqDiff, Nat.reduceSub, Nat.reduceMul, Nat.reduceBEq, Nat.reduceBNe, Nat.reducePow, Nat.reduceDiv, Int.reduceLE, Int.reduceLT, Int.reduceToNat, Int.reduceNeg, Int.reduceAdd, Int.reduceSub, Int.reduceEq, reduceIte, reduceCtorEq, UInt8.reduceOfNat, true_and]
    first
    | refine hK _ ?_
    | refine And.intro (by first | omega | (simp; done) | (simp; omega) | (simp +contextual; done) | (simp_all; done) | (simp_all; omega)) (hK _ ?_)
    clear hK K
    refine WA.regionK ty_ok hs fun K hK => ?_
    simp only [go_sem, Nat.reduceAdd, Nat.reduceLT, Nat.reduceLeDiff, Nat.reduceEqDiff, Nat.reduceSub, Nat.reduceMul, Nat.reduceBEq, Nat.reduceBNe, Nat.reducePow, Nat.reduceDiv, Int.reduceLE, Int.reduceLT, Int.reduceToNat, Int.reduceNeg, Int.reduceAdd, Int.reduceSub, Int.reduceEq, reduceIte, reduceCtorEq, UInt8.reduceOfNat, true_and]
    first
    | refine hK _ ?_
    | refine And.intro (by first | omega | (simp; done) | (simp; omega) | (simp +contextual; done) | (simp_all; done) | (simp_all; omega)) (hK _ ?_)
    clear hK K
    obtain ⟨k, hk⟩ : ∃ v, nxI (.li 1 (l.map iA)) z2 16 = v := ⟨_, rfl⟩
    have hk1 : 0 ≤ k ∧ k < 16 := by rw [← hk]; exact nx_rng _ _ 16 (by decide)
    have r3 : (k.toNat ≤ 64) = True := eq_true (by omega)
    have r4 : (k ≤ 64) = True := eq_true (by omega)
    have r5 : IntKind.u64.wrap k = k := wrap_u64 (by omega) (by omega)
    have r6 : (0 ≤ k) = True := eq_true (by omega)
    have w0 : 2 ^ k.toNat < 2 ^ 16 := Nat.pow_lt_pow_right (by decide) (by omega)
    obtain ⟨p, hp⟩ : ∃ p, 2 ^ k.toNat = p := ⟨_, rfl⟩
    rw [hp] at w0
    have w1 : IntKind.i64.wrap (2 ^ k.toNat) = (p : Int) := by
      have h2 : ((2 : Int) ^ k.toNat) = ((2 ^ k.toNat : Nat) : Int) := by simp
      rw [h2, hp]
      exact wrap_i64 (by omega) (by omega)
    refine WA.drawnH mixed_ ty_ok hs (tbl := [[], [0], [], [2], [2, 3], [2, 3, 4], [0, 1, 2, 3, 4, 5], [0, 1, 2, 3, 4, 5, 6], [0, 1, 2, 3, 4, 5, 6, 7]]) (nb := [1, 3, 8]) (hk := [[], [2040], [], [], [], [], [], [], []]) (by kernel_rfl) fun K hK => ?_
    simp only [go_sem, Nat.reduceAdd, Nat.reduceLT, Nat.reduceLeDiff, Nat.reduceEqDiff, Nat.reduceSub, Nat.reduceMul, Nat.reduceBEq, Nat.reduceBNe, Nat.reducePow, Nat.reduceDiv, Int.reduceLE, Int.reduceLT, Int.reduceToNat, Int.reduceNeg, Int.reduceAdd, Int.reduceSub, Int.reduceEq, reduceIte, reduceCtorEq, UInt8.reduceOfNat, sgGr, hT, hdS, hk, r3, r4, r5, r6, w1, Int.one_mul]
    refine hK _ ?_
    clear hK K
    by_cases hb : alw lv rv s = true
    ·
      have m1 : alw lv rv ⟨s.pw, s.b1, true, s.term, s.rights⟩ = true := alw_mono hb rfl (fun _ => rfl) (fun q => q) (fun q => q)
      have m2 : alw lv rv ⟨s.pw, s.b1, s.chip, true, s.rights⟩ = true := alw_mono hb rfl (fun q => q) (fun _ => rfl) (fun q => q)
      have m3 : alw lv rv ⟨s.pw, s.b1, s.chip, s.term, bits .or .i64 s.rights (p : Int)⟩ = true := alw_mono hb rfl (fun q => q) (fun q => q) (fun q => by
        have := bitS_or s.rights rv k.toNat hR.1 hR.2 (by omega) q
        rw [hp] at this
        exact this)
      refine WA.regionK ty_ok hs fun K hK => ?_
      simp only [go_sem, Nat.reduceAdd, Nat.reduceLT, Nat.reduceLeDiff, Nat.reduceEqDiff, Nat.reduceSub, Nat.reduceMul, Nat.reduceBEq, Nat.reduceBNe, Nat.reducePow, Nat.reduceDiv, Int.reduceLE, Int.reduceLT, Int.reduceToNat, Int.reduceNeg, Int.reduceAdd, Int.reduceSub, Int.reduceEq, reduceIte, reduceCtorEq, UInt8.reduceOfNat, sgGr, hS, hb, m1, m2, m3]
      first
      | refine hK _ ?_
      | refine And.intro (by first | omega | (simp; done) | (simp; omega) | (simp +contextual; done) | (simp_all; done) | (simp_all; omega)) (hK _ ?_)
      clear hK K
      refine WA.retE ty_ok (xs := [.lit (.bool true)]) (ls' := []) (rv := [.tmp 2]) rfl hX (by decide) (fun _ => rfl) (fun _ _ h => h) ?_
      simp only [go_sem, Nat.reduceAdd, Nat.reduceLT, Nat.reduceLeDiff, Nat.reduceEqDiff, Nat.reduceSub, Nat.reduceMul, Nat.reduceBEq, Nat.reduceBNe, Nat.reducePow, Nat.reduceDiv, Int.reduceLE, Int.reduceLT, Int.reduceToNat, Int.reduceNeg, Int.reduceAdd, Int.reduceSub, Int.reduceEq, reduceIte, reduceCtorEq, UInt8.reduceOfNat, sbT]
    ·
      have hb : alw lv rv s = false := by simpa using hb
      refine WA.regionK ty_ok hs fun K hK => ?_
      simp only [go_sem, Nat.reduceAdd, Nat.reduceLT, Nat.reduceLeDiff, Nat.reduceEqDiff, Nat.reduceSub, Nat.reduceMul, Nat.reduceBEq, Nat.reduceBNe, Nat.reducePow, Nat.reduceDiv, Int.reduceLE, Int.reduceLT, Int.reduceToNat, Int.reduceNeg, Int.reduceAdd, Int.reduceSub, Int.reduceEq, reduceIte, reduceCtorEq, UInt8.reduceOfNat, sgGr, hS, hb]
      first
      | refine hK _ ?_
      | refine And.intro (by first | omega | (simp; done) | (simp; omega) | (simp +contextual; done) | (simp_all; done) | (simp_all; omega)) (hK _ ?_)
      clear hK K
      refine WA.retE ty_ok (xs := [.lit (.bool true)]) (ls' := []) (rv := [.tmp 2]) rfl hX (by decide) (fun _ => rfl) (fun _ _ h => h) ?_
      simp only [go_sem, Nat.reduceAdd, Nat.reduceLT, Nat.reduceLeDiff, Nat.reduceEqDiff, Nat.reduceSub, Nat.reduceMul, Nat.reduceBEq, Nat.reduceBNe, Nat.reducePow, Nat.reduceDiv, Int.reduceLE, Int.reduceLT, Int.reduceToNat, Int.reduceNeg, Int.reduceAdd, Int.reduceSub, Int.reduceEq, reduceIte, reduceCtorEq, UInt8.reduceOfNat, sbT]
end Go.Proofs.Ytnjmedihheblaaa
