import Derived.Test.YtgmmdijmlnehlaaDoorShG
namespace Go.Proofs.YtgmmdijmlnehlaaDoor
open Go.RowKit Go.TravelBase Go.TravelAbs
set_option linter.unusedVariables false
set_option linter.unusedSimpArgs false



















/-! ### The sanity check -/
theorem hoP_elt (bs : List UInt8) : eltB (hoP bs) = true := by
  have h := secN_lt bs
  have e : hoP bs = (pwN 4 (skI bs).toNat : Int) := by
    unfold hoP pubV
    rw [if_pos (skI_sec bs)]
    rfl
  have hQ := GQ_int
  rw [e]
  refine elt_pw4 (not_dvd_lt ?_ ?_) <;> unfold skI <;> omega
def P0 : Pt := ⟨R1, hoP R1, 3, 0, 500⟩
def T0 : Sto := ⟨[P0], 100⟩
theorem P0_ok : pointE P0 = 0 := by
  unfold pointE P0
  simp only [hoP_elt]
  rw [if_neg (by decide), if_neg (by decide), if_neg (by decide), if_neg (by decide)]
theorem T0_ok : validE T0 = 0 := by
  have h1 : firE [P0] = 0 := by
    rw [firE, P0_ok]
    rfl
  have h2 : dupB [P0] = false := rfl
  unfold validE T0
  simp only [h1, h2]
  decide
theorem okT0 : okS (encS T0) T0 := ⟨T0_ok, rfl⟩
theorem encT0_len : (encS T0).length ≤ 1000 := by
  have h : encS T0 = acE T0.now T0.pts T0.pts.length := if_pos T0_ok
  have h2 := acE_len (now := T0.now) (valid_ok T0_ok).2.1 (Nat.le_refl _)
  rw [h]
  have e : T0.pts.length = 1 := rfl
  rw [e] at h2 ⊢
  omega
def TE : List UInt8 := [84, 69, 82, 77, 49]
theorem crt_ok : checkE (crt0 HO TE 4 1 200 300) = 0 := by
  have h1 : eltB (pubV (skI TE)) = true := hoP_elt TE
  unfold checkE crt0
  simp only [h1]
  rw [if_neg (by decide), if_neg (by decide), if_neg (by decide), if_neg (by decide), if_neg (by decide)]
theorem crt_ok2 (x y : Int) : checkE ⟨HO, TE, pubV (skI TE), 4, 1, 200, 300, x, y⟩ = 0 := crt_ok
theorem near_eq (x y : Int) : learnS T0 ⟨HO, 0, 2, 0, 0, 0⟩ ⟨HO, TE, pubV (skI TE), 4, 1, 200, 300, x, y⟩ = ⟨[P0], 200⟩ := by
  unfold learnS
  rw [if_neg (by rw [T0_ok, crt_ok2]; decide), if_pos (.inl (show (4 : Int) ≠ 1 by decide))]
  rfl
theorem far_eq (x y : Int) : learnS T0 ⟨HO, 0, 3, 0, 0, 0⟩ ⟨HO, TE, pubV (skI TE), 4, 1, 200, 300, x, y⟩ = ⟨[P0], 100⟩ := by
  unfold learnS
  rw [if_neg (by rw [T0_ok, crt_ok2]; decide), if_pos (.inl (show (4 : Int) ≠ 1 by decide))]
  rfl
def sgAw : Sg := fun f args ls =>
  match f, args, ls with
  | 23, [.lit (.string s)], [] => some (.lit (.int .i64 (hoP s.data.toList)), [], s.data.toList.length ≤ 1000000)
  | 13, [.agg [.li es xs, .lit (.int .i64 now)]], [] => some (.tup [.by_ (encS ⟨xs.map unT, now⟩), .lit (.int .i64 (validE ⟨xs.map unT, now⟩))], [], es = 5 ∧ xs = (xs.map unT).map ptA)
  | 15, [.by_ d], [] => some (.tup [stoA (dcV d), .lit (.int .i64 (dcE d))], [], d.length ≤ 1000)
  | 25, [.lit (.string a), .lit (.string h), .lit (.int .i64 r), .lit (.int .i64 rt), .lit (.int .i64 fr), .lit (.int .i64 t)], [] => some (ctA (issC (skI a.data.toList) (crt0 a.data.toList h.data.toList r rt fr t)), [], checkE (crt0 a.data.toList h.data.toList r rt fr t) = 0)
  | 20, [.agg [.li es xs, .lit (.int .i64 now)], .agg [.lit (.string h'), .lit (.int .i64 k'), .lit (.int .i64 r'), .lit (.int .i64 rt'), .lit (.int .i64 fr'), .lit (.int .i64 t')], .agg [.lit (.string a), .lit (.string h), .lit (.int .i64 k), .lit (.int .i64 r), .lit (.int .i64 rt), .lit (.int .i64 fr), .lit (.int .i64 t), .lit (.int .i64 x), .lit (.int .i64 y)]], [] => some (stoA (learnS ⟨xs.map unT, now⟩ ⟨h'.data.toList, k', r', rt', fr', t'⟩ ⟨a.data.toList, h.data.toList, k, r, rt, fr, t, x, y⟩), [], es = 5 ∧ xs = (xs.map unT).map ptA ∧ xs.length ≤ 1000000)
  | 17, [.agg [.li es xs, .lit (.int .i64 n)], .agg [.li es' ys, .lit (.int .i64 m)]], [] => some (.lit (.bool (sameS ⟨xs.map unT, n⟩ ⟨ys.map unT, m⟩)), [], (es = 5 ∧ xs = (xs.map unT).map ptA) ∧ (es' = 5 ∧ ys = (ys.map unT).map ptA) ∧ xs.length ≤ 1000)
  | 11, [.agg [_, .lit (.int .i64 now)]], [] => some (.lit (.int .i64 (validE ⟨[], now⟩)), [], args = [.agg [.lit (.slice none 0 0), .lit (.int .i64 now)]])
  | _, _, _ => none
theorem validNil_s (now : Int) : FnS Tryd.prog 11 [.agg [.lit (.slice none 0 0), .lit (.int .i64 now)]] [] (.lit (.int .i64 (validE ⟨[], now⟩))) [] := by
  have hs := sgV_ok
  have e : validE ⟨[], now⟩ = 72 := rfl
  refine FnS.of Tryd.func11 rfl (N := 55) rfl (by simp) (by simp) fun X hX => ?_
  simp only [tmArgs, lentH, Nat.reduceAdd]
  refine WA.regionK ty_ok hs fun K hK => ?_
  simp only [go_sem, Nat.reduceAdd, Nat.reduceLT, Nat.reduceLeDiff, Nat.reduceEqDiff, Nat.reduceSub, Nat.reduceMul, Nat.reduceBEq, Nat.reduceBNe, Nat.reducePow, Nat.reduceDiv, Int.reduceLE, Int.reduceLT, Int.reduceToNat, Int.reduceNeg, Int.reduceAdd, Int.reduceSub, Int.reduceEq, reduceIte, reduceCtorEq, UInt8.reduceOfNat, true_and]
  repeat refine And.intro (by first | omega | assumption | (simp; done) | (simp; omega) | (simp +contextual; done) | (simp_all; done) | (simp_all; omega)) ?_
  refine hK _ ?_
  clear hK K
  refine WA.seq ?_
  refine WA.regionK ty_ok hs fun K hK => ?_
  simp only [go_sem, Nat.reduceAdd, Nat.reduceLT, Nat.reduceLeDiff, Nat.reduceEqDiff, Nat.reduceSub, Nat.reduceMul, Nat.reduceBEq, Nat.reduceBNe, Nat.reducePow, Nat.reduceDiv, Int.reduceLE, Int.reduceLT, Int.reduceToNat, Int.reduceNeg, Int.reduceAdd, Int.reduceSub, Int.reduceEq, reduceIte, reduceCtorEq, UInt8.reduceOfNat, true_and]
  repeat refine And.intro (by first | omega | assumption | (simp; done) | (simp; omega) | (simp +contextual; done) | (simp_all; done) | (simp_all; omega)) ?_
  refine hK _ ?_
  clear hK K
  refine WA.cond rfl (fun h => ?_) (fun h => ?_)
  ·
    refine WA.regionK ty_ok hs fun K hK => ?_
    simp only [go_sem, Nat.reduceAdd, Nat.reduceLT, Nat.reduceLeDiff, Nat.reduceEqDiff, Nat.reduceSub, Nat.reduceMul, Nat.reduceBEq, Nat.reduceBNe, Nat.reducePow, Nat.reduceDiv, Int.reduceLE, Int.reduceLT, Int.reduceToNat, Int.reduceNeg, Int.reduceAdd, Int.reduceSub, Int.reduceEq, reduceIte, reduceCtorEq, UInt8.reduceOfNat, true_and]
    repeat refine And.intro (by first | omega | assumption | (simp; done) | (simp; omega) | (simp +contextual; done) | (simp_all; done) | (simp_all; omega)) ?_
    refine hK _ ?_
    clear hK K
    refine WA.retE ty_ok (xs := [.lit (.int .i64 (validE ⟨[], now⟩))]) (ls' := []) (rv := [.tmp 2]) rfl hX (by decide) (fun _ => rfl) (fun _ _ h => h) ?_
    simp only [go_sem, Nat.reduceAdd, Nat.reduceLT, Nat.reduceLeDiff, Nat.reduceEqDiff, Nat.reduceSub, Nat.reduceMul, Nat.reduceBEq, Nat.reduceBNe, Nat.reducePow, Nat.reduceDiv, Int.reduceLE, Int.reduceLT, Int.reduceToNat, Int.reduceNeg, Int.reduceAdd, Int.reduceSub, Int.reduceEq, reduceIte, reduceCtorEq, UInt8.reduceOfNat, sbT, e]
    all_goals (first | done | exact Nat.le_refl _ | (simp; done) | (and_intros <;> first | omega | exact Nat.le_refl _ | (simp; done) | (simp; omega)))
  ·
    exact absurd h (by decide)
theorem sgAw_ok : SgOK Tryd.prog sgAw := by
  intro f args ls r ls' vc h hvc
  unfold sgAw at h
  split at h <;> first | (simp only [Option.some.injEq, Prod.mk.injEq] at h; obtain ⟨rfl, rfl, rfl⟩ := h) | cases h
  · exact ⟨(fnOK Tryd.func23 (by decide) rfl), holder_s _ hvc⟩
  · obtain ⟨rfl, h2⟩ := hvc
    refine ⟨(fnOK Tryd.func13 (by decide) rfl), ?_⟩
    rename_i xs now
    have := encode_s ⟨xs.map unT, now⟩
    unfold stoA at this
    rw [← h2] at this
    exact this
  · exact ⟨(fnOK Tryd.func15 (by decide) rfl), decode_s _ hvc⟩
  · exact ⟨(fnOK Tryd.func25 (by decide) rfl), cert_s _ _ _ _ _ _ hvc⟩
  · obtain ⟨rfl, h2, h3⟩ := hvc
    refine ⟨(fnOK Tryd.func20 (by decide) rfl), ?_⟩
    rename_i xs now h' k' r' rt' fr' t' a h k r rt fr t x y
    have := learn_s ⟨xs.map unT, now⟩ ⟨h'.data.toList, k', r', rt', fr', t'⟩ ⟨a.data.toList, h.data.toList, k, r, rt, fr, t, x, y⟩ (by simpa using h3)
    unfold stoA cnA ctA at this
    rw [← h2] at this
    exact this
  · obtain ⟨⟨rfl, h2⟩, ⟨rfl, h3⟩, h4⟩ := hvc
    refine ⟨(fnOK Tryd.func17 (by decide) rfl), ?_⟩
    rename_i xs n ys m
    have := rsameS_s ⟨xs.map unT, n⟩ ⟨ys.map unT, m⟩ (by simpa using h4)
    unfold stoA at this
    rw [← h2, ← h3] at this
    exact this
  · rw [hvc]
    exact ⟨(fnOK Tryd.func11 (by decide) rfl), validNil_s _⟩
theorem awake_s : FnS Tryd.prog 9 [] [] (.lit (.bool true)) [] := by
  have hs := sgAw_ok
  have hT := T0_ok
  have hE := encT0_len
  have hd1 := (dc_yes okT0).1
  have hd2 := (dc_yes okT0).2
  have a1 : (ByteArray.mk #[82, 79, 79, 84, 49]).data.toList = R1 := rfl
  have a2 : R1.length ≤ 1000000 := by decide
  have a3 : (ByteArray.mk #[72, 79, 77, 69, 49]).data.toList = HO := rfl
  have a4 : (ByteArray.mk #[84, 69, 82, 77, 49]).data.toList = TE := rfl
  have e1 : unT (AV.agg [.lit (.string ⟨#[82, 79, 79, 84, 49]⟩), .lit (.int .i64 (hoP [82, 79, 79, 84, 49])), .lit (.int .i64 3), .lit (.int .i64 0), .lit (.int .i64 500)]) = P0 := rfl
  have e2 : ptA P0 = AV.agg [.lit (.string ⟨#[82, 79, 79, 84, 49]⟩), .lit (.int .i64 (hoP [82, 79, 79, 84, 49])), .lit (.int .i64 3), .lit (.int .i64 0), .lit (.int .i64 500)] := rfl
  have e3 : (⟨[P0], 100⟩ : Sto) = T0 := rfl
  have e4 : stoA T0 = .agg [.li 5 [AV.agg [.lit (.string ⟨#[82, 79, 79, 84, 49]⟩), .lit (.int .i64 (hoP [82, 79, 79, 84, 49])), .lit (.int .i64 3), .lit (.int .i64 0), .lit (.int .i64 500)]], .lit (.int .i64 100)] := rfl
  have e5 : stoA ⟨[P0], 200⟩ = .agg [.li 5 [AV.agg [.lit (.string ⟨#[82, 79, 79, 84, 49]⟩), .lit (.int .i64 (hoP [82, 79, 79, 84, 49])), .lit (.int .i64 3), .lit (.int .i64 0), .lit (.int .i64 500)]], .lit (.int .i64 200)] := rfl
  have hsa := sameS_refl T0
  obtain ⟨x, y, hc⟩ : ∃ x y, ctA (issC (skI [72, 79, 77, 69, 49]) (crt0 [72, 79, 77, 69, 49] [84, 69, 82, 77, 49] 4 1 200 300)) = .agg [.lit (.string ⟨#[72, 79, 77, 69, 49]⟩), .lit (.string ⟨#[84, 69, 82, 77, 49]⟩), .lit (.int .i64 (pubV (skI [84, 69, 82, 77, 49]))), .lit (.int .i64 4), .lit (.int .i64 1), .lit (.int .i64 200), .lit (.int .i64 300), .lit (.int .i64 x), .lit (.int .i64 y)] := ⟨_, _, rfl⟩
  have hn : learnS T0 ⟨[72, 79, 77, 69, 49], 0, 2, 0, 0, 0⟩ ⟨[72, 79, 77, 69, 49], [84, 69, 82, 77, 49], pubV (skI [84, 69, 82, 77, 49]), 4, 1, 200, 300, x, y⟩ = ⟨[P0], 200⟩ := near_eq x y
  have hf : learnS T0 ⟨[72, 79, 77, 69, 49], 0, 3, 0, 0, 0⟩ ⟨[72, 79, 77, 69, 49], [84, 69, 82, 77, 49], pubV (skI [84, 69, 82, 77, 49]), 4, 1, 200, 300, x, y⟩ = ⟨[P0], 100⟩ := far_eq x y
  have hok : checkE (crt0 [72, 79, 77, 69, 49] [84, 69, 82, 77, 49] 4 1 200 300) = 0 := crt_ok
  have h72 : validE ⟨[], 0⟩ = 72 := rfl
  refine FnS.of Tryd.func9 rfl (N := 58) rfl (by simp) (by simp) fun X hX => ?_
  simp only [tmArgs, lentH, Nat.reduceAdd]
  refine WA.regionK ty_ok hs fun K hK => ?_
  simp only [go_sem, Nat.reduceAdd, Nat.reduceLT, Nat.reduceLeDiff, Nat.reduceEqDiff, Nat.reduceSub, Nat.reduceMul, Nat.reduceBEq, Nat.reduceBNe, Nat.reducePow, Nat.reduceDiv, Int.reduceLE, Int.reduceLT, Int.reduceToNat, Int.reduceNeg, Int.reduceAdd, Int.reduceSub, Int.reduceEq, reduceIte, reduceCtorEq, UInt8.reduceOfNat, true_and]
  repeat refine And.intro (by first | omega | assumption | (simp; done) | (simp; omega) | (simp +contextual; done) | (simp_all; done) | (simp_all; omega)) ?_
  refine hK _ ?_
  clear hK K
  refine WA.regionK ty_ok hs fun K hK => ?_
  simp only [go_sem, Nat.reduceAdd, Nat.reduceLT, Nat.reduceLeDiff, Nat.reduceEqDiff, Nat.reduceSub, Nat.reduceMul, Nat.reduceBEq, Nat.reduceBNe, Nat.reducePow, Nat.reduceDiv, Int.reduceLE, Int.reduceLT, Int.reduceToNat, Int.reduceNeg, Int.reduceAdd, Int.reduceSub, Int.reduceEq, reduceIte, reduceCtorEq, UInt8.reduceOfNat, sgAw, a1, a2]
  repeat refine And.intro (by first | omega | assumption | (simp; done) | (simp; omega) | (simp +contextual; done) | (simp_all; done) | (simp_all; omega)) ?_
  refine hK _ ?_
  clear hK K
  refine WA.norm 2024 fun K hK => ?_
  simp only [go_sem, Nat.reduceAdd, Nat.reduceLT, Nat.reduceLeDiff, Nat.reduceEqDiff, Nat.reduceSub, Nat.reduceMul, Nat.reduceBEq, Nat.reduceBNe, Nat.reducePow, Nat.reduceDiv, Int.reduceLE, Int.reduceLT, Int.reduceToNat, Int.reduceNeg, Int.reduceAdd, Int.reduceSub, Int.reduceEq, reduceIte, reduceCtorEq, UInt8.reduceOfNat, true_and]
  repeat refine And.intro (by first | omega | assumption | (simp; done) | (simp; omega) | (simp +contextual; done) | (simp_all; done) | (simp_all; omega)) ?_
  refine hK _ ?_
  clear hK K
  refine WA.norm 2040 fun K hK => ?_
  simp only [go_sem, Nat.reduceAdd, Nat.reduceLT, Nat.reduceLeDiff, Nat.reduceEqDiff, Nat.reduceSub, Nat.reduceMul, Nat.reduceBEq, Nat.reduceBNe, Nat.reducePow, Nat.reduceDiv, Int.reduceLE, Int.reduceLT, Int.reduceToNat, Int.reduceNeg, Int.reduceAdd, Int.reduceSub, Int.reduceEq, reduceIte, reduceCtorEq, UInt8.reduceOfNat, true_and]
  repeat refine And.intro (by first | omega | assumption | (simp; done) | (simp; omega) | (simp +contextual; done) | (simp_all; done) | (simp_all; omega)) ?_
  refine hK _ ?_
  clear hK K
  refine WA.regionK ty_ok hs fun K hK => ?_
  simp only [go_sem, Nat.reduceAdd, Nat.reduceLT, Nat.reduceLeDiff, Nat.reduceEqDiff, Nat.reduceSub, Nat.reduceMul, Nat.reduceBEq, Nat.reduceBNe, Nat.reducePow, Nat.reduceDiv, Int.reduceLE, Int.reduceLT, Int.reduceToNat, Int.reduceNeg, Int.reduceAdd, Int.reduceSub, Int.reduceEq, reduceIte, reduceCtorEq, UInt8.reduceOfNat, sgAw, e1, e2, e3, hT]
  repeat refine And.intro (by first | omega | assumption | (simp; done) | (simp; omega) | (simp +contextual; done) | (simp_all; done) | (simp_all; omega)) ?_
  refine hK _ ?_
  clear hK K
  refine WA.regionK ty_ok hs fun K hK => ?_
  simp only [go_sem, Nat.reduceAdd, Nat.reduceLT, Nat.reduceLeDiff, Nat.reduceEqDiff, Nat.reduceSub, Nat.reduceMul, Nat.reduceBEq, Nat.reduceBNe, Nat.reducePow, Nat.reduceDiv, Int.reduceLE, Int.reduceLT, Int.reduceToNat, Int.reduceNeg, Int.reduceAdd, Int.reduceSub, Int.reduceEq, reduceIte, reduceCtorEq, UInt8.reduceOfNat, sgAw, e1, e2, e3, hT, hE, hd1, hd2, e4]
  repeat refine And.intro (by first | omega | assumption | (simp; done) | (simp; omega) | (simp +contextual; done) | (simp_all; done) | (simp_all; omega)) ?_
  refine hK _ ?_
  clear hK K
  refine WA.regionK ty_ok hs fun K hK => ?_
  simp only [go_sem, Nat.reduceAdd, Nat.reduceLT, Nat.reduceLeDiff, Nat.reduceEqDiff, Nat.reduceSub, Nat.reduceMul, Nat.reduceBEq, Nat.reduceBNe, Nat.reducePow, Nat.reduceDiv, Int.reduceLE, Int.reduceLT, Int.reduceToNat, Int.reduceNeg, Int.reduceAdd, Int.reduceSub, Int.reduceEq, reduceIte, reduceCtorEq, UInt8.reduceOfNat, sgAw, a3, a4, hc, hok]
  repeat refine And.intro (by first | omega | assumption | (simp; done) | (simp; omega) | (simp +contextual; done) | (simp_all; done) | (simp_all; omega)) ?_
  refine hK _ ?_
  clear hK K
  refine WA.regionK ty_ok hs fun K hK => ?_
  simp only [go_sem, Nat.reduceAdd, Nat.reduceLT, Nat.reduceLeDiff, Nat.reduceEqDiff, Nat.reduceSub, Nat.reduceMul, Nat.reduceBEq, Nat.reduceBNe, Nat.reducePow, Nat.reduceDiv, Int.reduceLE, Int.reduceLT, Int.reduceToNat, Int.reduceNeg, Int.reduceAdd, Int.reduceSub, Int.reduceEq, reduceIte, reduceCtorEq, UInt8.reduceOfNat, sgAw, a3, a4, e1, e2, e3, hn, e5]
  repeat refine And.intro (by first | omega | assumption | (simp; done) | (simp; omega) | (simp +contextual; done) | (simp_all; done) | (simp_all; omega)) ?_
  refine hK _ ?_
  clear hK K
  refine WA.regionK ty_ok hs fun K hK => ?_
  simp only [go_sem, Nat.reduceAdd, Nat.reduceLT, Nat.reduceLeDiff, Nat.reduceEqDiff, Nat.reduceSub, Nat.reduceMul, Nat.reduceBEq, Nat.reduceBNe, Nat.reducePow, Nat.reduceDiv, Int.reduceLE, Int.reduceLT, Int.reduceToNat, Int.reduceNeg, Int.reduceAdd, Int.reduceSub, Int.reduceEq, reduceIte, reduceCtorEq, UInt8.reduceOfNat, sgAw, a3, a4, e1, e2, e3, hf, e4]
  repeat refine And.intro (by first | omega | assumption | (simp; done) | (simp; omega) | (simp +contextual; done) | (simp_all; done) | (simp_all; omega)) ?_
  refine hK _ ?_
  clear hK K
  refine WA.regionK ty_ok hs fun K hK => ?_
  simp only [go_sem, Nat.reduceAdd, Nat.reduceLT, Nat.reduceLeDiff, Nat.reduceEqDiff, Nat.reduceSub, Nat.reduceMul, Nat.reduceBEq, Nat.reduceBNe, Nat.reducePow, Nat.reduceDiv, Int.reduceLE, Int.reduceLT, Int.reduceToNat, Int.reduceNeg, Int.reduceAdd, Int.reduceSub, Int.reduceEq, reduceIte, reduceCtorEq, UInt8.reduceOfNat, sgAw, a3, a4, e1, e2, e3, hsa, h72]
  repeat refine And.intro (by first | omega | assumption | (simp; done) | (simp; omega) | (simp +contextual; done) | (simp_all; done) | (simp_all; omega)) ?_
  refine hK _ ?_
  clear hK K
  refine WA.retE ty_ok (xs := [.lit (.bool true)]) (ls' := []) (rv := [.tmp 0]) rfl hX (by decide) (fun _ => rfl) (fun _ _ h => h) ?_
  simp only [go_sem, Nat.reduceAdd, Nat.reduceLT, Nat.reduceLeDiff, Nat.reduceEqDiff, Nat.reduceSub, Nat.reduceMul, Nat.reduceBEq, Nat.reduceBNe, Nat.reducePow, Nat.reduceDiv, Int.reduceLE, Int.reduceLT, Int.reduceToNat, Int.reduceNeg, Int.reduceAdd, Int.reduceSub, Int.reduceEq, reduceIte, reduceCtorEq, UInt8.reduceOfNat, sbT]
  all_goals (first | done | exact Nat.le_refl _ | (simp; done) | (and_intros <;> first | omega | exact Nat.le_refl _ | (simp; done) | (simp; omega)))
end Go.Proofs.YtgmmdijmlnehlaaDoor
