import Derived.Test.YtgmmdijmlnehlaaDoorShC
import Derived.Test.YtgmmdijmlnehlaaDoorRTc
import Derived.Test.YtgmmdijmlnehlaaDoorChP
import Derived.Test.YtgmmdijmlnehlaaDoorAbsSb
namespace Go.Proofs.YtgmmdijmlnehlaaDoor
open Go.RowKit Go.TravelBase Go.TravelAbs
set_option linter.unusedVariables false
set_option linter.unusedSimpArgs false



















/-! ### Certificates: what is signed -/
theorem leaf_s (t : Int) (b : List UInt8) : FnS Tryd.prog 77 [.lit (.int .i64 t), .by_ b] [] (.agg [.lit (.int .i64 t), .by_ b, .li 3 []]) [] := by
  have hs := sg0_ok
  refine FnS.of Tryd.func77 rfl (N := 8) rfl (by simp) (by simp) fun X hX => ?_
  simp only [tmArgs, lentH, Nat.reduceAdd]
  refine WA.regionK ty_ok hs fun K hK => ?_
  simp only [go_sem, Nat.reduceAdd, Nat.reduceLT, Nat.reduceLeDiff, Nat.reduceEqDiff, Nat.reduceSub, Nat.reduceMul, Nat.reduceBEq, Nat.reduceBNe, Nat.reducePow, Nat.reduceDiv, Int.reduceLE, Int.reduceLT, Int.reduceToNat, Int.reduceNeg, Int.reduceAdd, Int.reduceSub, Int.reduceEq, reduceIte, reduceCtorEq, UInt8.reduceOfNat, true_and]
  repeat refine And.intro (by first | omega | assumption | (simp; done) | (simp; omega) | (simp +contextual; done) | (simp_all; done) | (simp_all; omega)) ?_
  refine hK _ ?_
  clear hK K
  refine WA.regionK ty_ok hs fun K hK => ?_
  simp only [go_sem, Nat.reduceAdd, Nat.reduceLT, Nat.reduceLeDiff, Nat.reduceEqDiff, Nat.reduceSub, Nat.reduceMul, Nat.reduceBEq, Nat.reduceBNe, Nat.reducePow, Nat.reduceDiv, Int.reduceLE, Int.reduceLT, Int.reduceToNat, Int.reduceNeg, Int.reduceAdd, Int.reduceSub, Int.reduceEq, reduceIte, reduceCtorEq, UInt8.reduceOfNat, true_and]
  repeat refine And.intro (by first | omega | assumption | (simp; done) | (simp; omega) | (simp +contextual; done) | (simp_all; done) | (simp_all; omega)) ?_
  refine hK _ ?_
  clear hK K
  refine WA.retE ty_ok (xs := [.agg [.lit (.int .i64 t), .by_ b, .li 3 []]]) (ls' := []) (rv := [.cell 4 93]) rfl hX (by decide) (fun _ => rfl) (fun _ _ h => h) ?_
  simp only [go_sem, Nat.reduceAdd, Nat.reduceLT, Nat.reduceLeDiff, Nat.reduceEqDiff, Nat.reduceSub, Nat.reduceMul, Nat.reduceBEq, Nat.reduceBNe, Nat.reducePow, Nat.reduceDiv, Int.reduceLE, Int.reduceLT, Int.reduceToNat, Int.reduceNeg, Int.reduceAdd, Int.reduceSub, Int.reduceEq, reduceIte, reduceCtorEq, UInt8.reduceOfNat, sbT]
  all_goals (first | done | exact Nat.le_refl _ | (simp; done) | (and_intros <;> first | omega | exact Nat.le_refl _ | (simp; done) | (simp; omega)))
def lfN (t : Int) (b : List UInt8) : Nd := .mk t b []
def bodyN (c : Ct) : Nd := .mk 32590 [] [lfN 66 c.iss, lfN 24352 c.hold, lfN 134 (encL c.key), .mk 32588 [] [lfN 83 (beS c.role.toNat 1 ++ beS c.rt.toNat 2)], lfN 24357 (le3 c.fr), lfN 24356 (le3 c.til)]
def sgBo : Sg := fun f args ls =>
  match f, args, ls with
  | 34, [.lit (.int .i64 x)], [] => some (.tup [.fr (.by_ (encL x)), .lit (.int .i64 (encE x))], [], True)
  | 33, [.lit (.int .i64 n), .lit (.int .i64 k)], [] => some (.fr (.by_ (if k = 3 then le3 n else beS n.toNat k.toNat)), [], (0 ≤ n ∧ n ≤ 9223372036854775807) ∧ 0 ≤ k ∧ k ≤ 4096)
  | 77, [.lit (.int .i64 t), .by_ b], [] => some (.agg [.lit (.int .i64 t), .by_ b, .li 3 []], [], True)
  | _, _, _ => none
theorem sgBo_ok : SgOK Tryd.prog sgBo := by
  intro f args ls r ls' vc h hvc
  unfold sgBo at h
  split at h <;> first | (simp only [Option.some.injEq, Prod.mk.injEq] at h; obtain ⟨rfl, rfl, rfl⟩ := h) | cases h
  · exact ⟨(fnOK Tryd.func34 (by decide) rfl), renc_s _⟩
  · rename_i n k
    obtain ⟨⟨h1, h2⟩, h3, h4⟩ := hvc
    refine ⟨(fnOK Tryd.func33 (by decide) rfl), ?_⟩
    obtain ⟨j, rfl⟩ := Int.eq_ofNat_of_zero_le h3
    have := rbytes_s n j h1 h2 (by omega)
    split
    · rename_i h
      obtain rfl : j = 3 := by omega
      rw [le3_be h1]
      exact this
    · exact this
  · exact ⟨(fnOK Tryd.func77 (by decide) rfl), leaf_s _ _⟩
theorem check_ok {c : Ct} (h : checkE c = 0) : (nameB c.iss = true ∧ nameB c.hold = true) ∧ eltB c.key = true ∧ (1 ≤ c.role ∧ c.role ≤ 4) ∧ (0 ≤ c.rt ∧ c.rt ≤ 65535) ∧ (0 ≤ c.fr ∧ c.fr ≤ c.til ∧ c.til ≤ 73048) := by
  unfold checkE at h
  split at h
  · cases h
  · rename_i h1
    split at h
    · cases h
    · rename_i h2
      split at h
      · cases h
      · rename_i h3
        split at h
        · cases h
        · rename_i h4
          split at h
          · cases h
          · rename_i h5
            simp only [Bool.not_eq_false, not_or] at h1 h2 h5
            simp only [daysB, Bool.and_eq_true, decide_eq_true_eq] at h5
            exact ⟨h1, h2, by omega, by omega, by omega⟩
theorem body_s (c : Ct) (h : checkE c = 0) : FnS Tryd.prog 68 [ctA c] [] (ndA (bodyN c)) [] := by
  obtain ⟨⟨n1, n2⟩, k1, ro, rt, da⟩ := check_ok h
  obtain ⟨ci, ch, ck, cr, crt, cf, ct, cx, cy⟩ := c
  simp only at n1 n2 k1 ro rt da
  have hs := sgBo_ok
  have l3 : ∀ d, (le3 d).length = 3 := fun _ => rfl
  have t3 : ∀ d, List.take 3 (le3 d) = le3 d := fun _ => rfl
  have e1 : (encL ck).length = 4 := by simp [encL, k1, length_beS]
  have e2 : List.take 4 (encL ck) = encL ck := List.take_of_length_le (by omega)
  have i3 : ∀ n : Int, (if (3 : Int) = 3 then le3 n else beS n.toNat (3 : Int).toNat) = le3 n := fun _ => if_pos rfl
  have i1 : (if (1 : Int) = 3 then le3 cr else beS cr.toNat (1 : Int).toNat) = beS cr.toNat 1 := if_neg (by decide)
  have i2 : (if (2 : Int) = 3 then le3 crt else beS crt.toNat (2 : Int).toNat) = beS crt.toNat 2 := if_neg (by decide)
  have b1 := length_beS cr.toNat 1
  have b2 := length_beS crt.toNat 2
  have b4 : List.take 2 (beS crt.toNat 2) = beS crt.toNat 2 := List.take_of_length_le (by omega)
  have b5 : List.take 3 (beS cr.toNat 1 ++ beS crt.toNat 2) = beS cr.toNat 1 ++ beS crt.toNat 2 := List.take_of_length_le (by rw [List.length_append]; omega)
  have na : (strB ci).size ≤ 9223372036854775807 ∧ (strB ch).size ≤ 9223372036854775807 := by
    simp only [nameB, decide_eq_true_eq] at n1 n2
    rw [strB_size, strB_size]
    omega
  unfold ctA
  refine FnS.of Tryd.func68 rfl (N := 43) rfl (by simp) (by simp) fun X hX => ?_
  simp only [tmArgs, lentH, Nat.reduceAdd]
  refine WA.regionK ty_ok hs fun K hK => ?_
  simp only [go_sem, Nat.reduceAdd, Nat.reduceLT, Nat.reduceLeDiff, Nat.reduceEqDiff, Nat.reduceSub, Nat.reduceMul, Nat.reduceBEq, Nat.reduceBNe, Nat.reducePow, Nat.reduceDiv, Int.reduceLE, Int.reduceLT, Int.reduceToNat, Int.reduceNeg, Int.reduceAdd, Int.reduceSub, Int.reduceEq, reduceIte, reduceCtorEq, UInt8.reduceOfNat, strB_toList]
  repeat refine And.intro (by first | omega | assumption | (simp; done) | (simp; omega) | (simp +contextual; done) | (simp_all; done) | (simp_all; omega)) ?_
  refine hK _ ?_
  clear hK K
  refine WA.regionK ty_ok hs fun K hK => ?_
  simp only [go_sem, Nat.reduceAdd, Nat.reduceLT, Nat.reduceLeDiff, Nat.reduceEqDiff, Nat.reduceSub, Nat.reduceMul, Nat.reduceBEq, Nat.reduceBNe, Nat.reducePow, Nat.reduceDiv, Int.reduceLE, Int.reduceLT, Int.reduceToNat, Int.reduceNeg, Int.reduceAdd, Int.reduceSub, Int.reduceEq, reduceIte, reduceCtorEq, UInt8.reduceOfNat, sgBo, e1, e2]
  repeat refine And.intro (by first | omega | assumption | (simp; done) | (simp; omega) | (simp +contextual; done) | (simp_all; done) | (simp_all; omega)) ?_
  refine hK _ ?_
  clear hK K
  refine WA.drawnH mixed_ ty_ok hs (tbl := [[], [0], [0, 1], [], [3], [0, 1, 2, 3, 4], [0, 1, 2, 3, 4, 5], [0, 1, 2, 3, 4, 5, 6]]) (nb := [1, 2, 4, 5, 6]) (hk := [[], [], [], [], [], [], [], []]) (by kernel_rfl) fun K hK => ?_
  simp only [go_sem, Nat.reduceAdd, Nat.reduceLT, Nat.reduceLeDiff, Nat.reduceEqDiff, Nat.reduceSub, Nat.reduceMul, Nat.reduceBEq, Nat.reduceBNe, Nat.reducePow, Nat.reduceDiv, Int.reduceLE, Int.reduceLT, Int.reduceToNat, Int.reduceNeg, Int.reduceAdd, Int.reduceSub, Int.reduceEq, reduceIte, reduceCtorEq, UInt8.reduceOfNat, sgBo, i1, i2, b1, b2, b4]
  repeat refine And.intro (by first | omega | assumption | (simp; done) | (simp; omega) | (simp +contextual; done) | (simp_all; done) | (simp_all; omega)) ?_
  refine hK _ ?_
  clear hK K
  refine WA.drawnH mixed_ ty_ok hs (tbl := [[], [0], [0, 1], [0, 1, 2], [], [4], [4, 5], [0, 1, 2, 3, 4, 5, 6], [], [0, 1, 2, 3, 4, 5, 6, 7, 8], [], [0, 1, 2, 3, 4, 5, 6, 7, 8, 9, 10], [0, 1, 2, 3, 4, 5, 6, 7, 8, 9, 10, 11], [0, 1, 2, 3, 4, 5, 6, 7, 8, 9, 10, 11, 12], [], [14], [0, 1, 2, 3, 4, 5, 6, 7, 8, 9, 10, 11, 14, 15], [0, 1, 2, 3, 4, 5, 6, 7, 8, 9, 10, 11, 14, 15, 16], [], [18], [0, 1, 2, 3, 4, 5, 6, 7, 8, 9, 10, 11, 14, 15, 16, 17, 18, 19], [0, 1, 2, 3, 4, 5, 6, 7, 8, 9, 10, 11, 14, 15, 16, 17, 18, 19, 20], [0, 1, 2, 3, 4, 5, 6, 7, 8, 9, 10, 11, 12, 13, 14, 15, 16, 17, 18, 19, 20, 21], [0, 1, 2, 3, 4, 5, 6, 7, 8, 9, 10, 11, 12, 13, 14, 15, 16, 17, 18, 19, 20, 21, 22], [0, 1, 2, 3, 4, 5, 6, 7, 8, 9, 10, 11, 12, 13, 14, 15, 16, 17, 18, 19, 20, 21, 22, 23]]) (nb := [1, 3, 5, 7, 9, 11, 15, 16, 17, 19, 20, 21, 24]) (hk := [[], [], [], [], [], [], [], [], [], [], [2032], [], [2272, 2304], [2272, 2304], [2032, 2128], [2032, 2128], [], [], [2032, 2128, 2272], [2032, 2128, 2272], [], [], [], [], []]) (by kernel_rfl) fun K hK => ?_
  simp only [go_sem, Nat.reduceAdd, Nat.reduceLT, Nat.reduceLeDiff, Nat.reduceEqDiff, Nat.reduceSub, Nat.reduceMul, Nat.reduceBEq, Nat.reduceBNe, Nat.reducePow, Nat.reduceDiv, Int.reduceLE, Int.reduceLT, Int.reduceToNat, Int.reduceNeg, Int.reduceAdd, Int.reduceSub, Int.reduceEq, reduceIte, reduceCtorEq, UInt8.reduceOfNat, sgBo, i3, l3, t3, e1, e2, b1, b2, b5, strB_list, na.1, na.2]
  repeat refine And.intro (by first | omega | assumption | (simp; done) | (simp; omega) | (simp +contextual; done) | (simp_all; done) | (simp_all; omega)) ?_
  refine hK _ ?_
  clear hK K
  refine WA.sb 2320 (xs' := [.agg [.lit (.int .i64 66), .by_ ci, .li 3 []], .agg [.lit (.int .i64 24352), .by_ ch, .li 3 []], .agg [.lit (.int .i64 134), .by_ (encL ck), .li 3 []], .agg [.lit (.int .i64 32588), .by_ [], .sl 2240 3 0 1], .agg [.lit (.int .i64 24357), .by_ (le3 cf), .li 3 []], .agg [.lit (.int .i64 24356), .by_ (le3 ct), .li 3 []]]) rfl ⟨WkC.rfl_ _, WkC.rfl_ _, WkC.rfl_ _, ⟨Wk.rfl_ _, Wk.by_, Wk.rfl_ _, rfl⟩, WkC.rfl_ _, WkC.rfl_ _, rfl⟩ ?_
  refine WA.norm 2320 fun K hK => ?_
  simp only [go_sem, Nat.reduceAdd, Nat.reduceLT, Nat.reduceLeDiff, Nat.reduceEqDiff, Nat.reduceSub, Nat.reduceMul, Nat.reduceBEq, Nat.reduceBNe, Nat.reducePow, Nat.reduceDiv, Int.reduceLE, Int.reduceLT, Int.reduceToNat, Int.reduceNeg, Int.reduceAdd, Int.reduceSub, Int.reduceEq, reduceIte, reduceCtorEq, UInt8.reduceOfNat, true_and]
  repeat refine And.intro (by first | omega | assumption | (simp; done) | (simp; omega) | (simp +contextual; done) | (simp_all; done) | (simp_all; omega)) ?_
  refine hK _ ?_
  clear hK K
  refine WA.norm 2008 fun K hK => ?_
  simp only [go_sem, Nat.reduceAdd, Nat.reduceLT, Nat.reduceLeDiff, Nat.reduceEqDiff, Nat.reduceSub, Nat.reduceMul, Nat.reduceBEq, Nat.reduceBNe, Nat.reducePow, Nat.reduceDiv, Int.reduceLE, Int.reduceLT, Int.reduceToNat, Int.reduceNeg, Int.reduceAdd, Int.reduceSub, Int.reduceEq, reduceIte, reduceCtorEq, UInt8.reduceOfNat, true_and]
  repeat refine And.intro (by first | omega | assumption | (simp; done) | (simp; omega) | (simp +contextual; done) | (simp_all; done) | (simp_all; omega)) ?_
  refine hK _ ?_
  clear hK K
  refine WA.retE ty_ok (xs := [ndA (bodyN ⟨ci, ch, ck, cr, crt, cf, ct, cx, cy⟩)]) (ls' := []) (rv := [.cell 2 93]) rfl hX (by decide) (fun _ => rfl) (fun _ _ h => h) ?_
  simp only [go_sem, Nat.reduceAdd, Nat.reduceLT, Nat.reduceLeDiff, Nat.reduceEqDiff, Nat.reduceSub, Nat.reduceMul, Nat.reduceBEq, Nat.reduceBNe, Nat.reducePow, Nat.reduceDiv, Int.reduceLE, Int.reduceLT, Int.reduceToNat, Int.reduceNeg, Int.reduceAdd, Int.reduceSub, Int.reduceEq, reduceIte, reduceCtorEq, UInt8.reduceOfNat, sbT, ndA, ndsA, bodyN, lfN]
  all_goals (first | done | exact Nat.le_refl _ | (simp; done) | (and_intros <;> first | omega | exact Nat.le_refl _ | (simp; done) | (simp; omega)))
end Go.Proofs.YtgmmdijmlnehlaaDoor
