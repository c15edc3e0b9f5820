import Derived.Test.YtgmmdijmlnehlaaDoorShB
import Derived.Test.YtgmmdijmlnehlaaDoorChA
namespace Go.Proofs.YtgmmdijmlnehlaaDoor
open Go.RowKit Go.TravelBase Go.TravelAbs
set_option linter.unusedVariables false
set_option linter.unusedSimpArgs false



















/-! ### Signatures -/
def fourS (x : Int) : List UInt8 := [byS (x.fdiv (2 ^ 24)), byS (x.fdiv (2 ^ 16)), byS (x.fdiv (2 ^ 8)), byS x]
theorem four_s (x : Int) : FnS Tryd.prog 57 [.lit (.int .i64 x)] [] (.fr (.by_ (fourS x))) [] := by
  have hs := sg0_ok
  refine FnS.of Tryd.func57 rfl (N := 15) rfl (by simp) (by simp) fun X hX => ?_
  simp only [tmArgs, lentH, Nat.reduceAdd]
  refine WA.regionK ty_ok hs fun K hK => ?_
  simp only [go_sem, Nat.reduceAdd, Nat.reduceLT, Nat.reduceLeDiff, Nat.reduceEqDiff, Nat.reduceSub, Nat.reduceMul, Nat.reduceBEq, Nat.reduceBNe, Nat.reducePow, Nat.reduceDiv, Int.reduceLE, Int.reduceLT, Int.reduceToNat, Int.reduceNeg, Int.reduceAdd, Int.reduceSub, Int.reduceEq, reduceIte, reduceCtorEq, UInt8.reduceOfNat, true_and]
  repeat refine And.intro (by first | omega | assumption | (simp; done) | (simp; omega) | (simp +contextual; done) | (simp_all; done) | (simp_all; omega)) ?_
  refine hK _ ?_
  clear hK K
  refine WA.regionK ty_ok hs fun K hK => ?_
  simp only [go_sem, Nat.reduceAdd, Nat.reduceLT, Nat.reduceLeDiff, Nat.reduceEqDiff, Nat.reduceSub, Nat.reduceMul, Nat.reduceBEq, Nat.reduceBNe, Nat.reducePow, Nat.reduceDiv, Int.reduceLE, Int.reduceLT, Int.reduceToNat, Int.reduceNeg, Int.reduceAdd, Int.reduceSub, Int.reduceEq, reduceIte, reduceCtorEq, UInt8.reduceOfNat, true_and]
  repeat refine And.intro (by first | omega | assumption | (simp; done) | (simp; omega) | (simp +contextual; done) | (simp_all; done) | (simp_all; omega)) ?_
  refine hK _ ?_
  clear hK K
  refine WA.retE ty_ok (xs := [.fr (.by_ (fourS x))]) (ls' := []) (rv := [.tmp 2]) rfl hX (by decide) (fun _ => rfl) (fun _ _ h => h) ?_
  simp only [go_sem, Nat.reduceAdd, Nat.reduceLT, Nat.reduceLeDiff, Nat.reduceEqDiff, Nat.reduceSub, Nat.reduceMul, Nat.reduceBEq, Nat.reduceBNe, Nat.reducePow, Nat.reduceDiv, Int.reduceLE, Int.reduceLT, Int.reduceToNat, Int.reduceNeg, Int.reduceAdd, Int.reduceSub, Int.reduceEq, reduceIte, reduceCtorEq, UInt8.reduceOfNat, sbT, fourS, byS]
  all_goals (first | done | exact Nat.le_refl _ | (simp; done) | (and_intros <;> first | omega | exact Nat.le_refl _ | (simp; done) | (simp; omega)))
theorem rjoinB_s (a b : List UInt8) (ha : a.length + b.length ≤ 1000000000) : FnS Tryd.prog 71 [.by_ a, .by_ b] [] (.fr (.by_ (a ++ b))) [] := by
  have hs := sg0_ok
  refine FnS.of Tryd.func71 rfl (N := 9) rfl (by simp) (by simp) fun X hX => ?_
  simp only [tmArgs, lentH, Nat.reduceAdd]
  refine WA.regionK ty_ok hs fun K hK => ?_
  simp only [go_sem, Nat.reduceAdd, Nat.reduceLT, Nat.reduceLeDiff, Nat.reduceEqDiff, Nat.reduceSub, Nat.reduceMul, Nat.reduceBEq, Nat.reduceBNe, Nat.reducePow, Nat.reduceDiv, Int.reduceLE, Int.reduceLT, Int.reduceToNat, Int.reduceNeg, Int.reduceAdd, Int.reduceSub, Int.reduceEq, reduceIte, reduceCtorEq, UInt8.reduceOfNat, true_and]
  repeat refine And.intro (by first | omega | assumption | (simp; done) | (simp; omega) | (simp +contextual; done) | (simp_all; done) | (simp_all; omega)) ?_
  refine hK _ ?_
  clear hK K
  refine WA.regionK ty_ok hs fun K hK => ?_
  simp only [go_sem, Nat.reduceAdd, Nat.reduceLT, Nat.reduceLeDiff, Nat.reduceEqDiff, Nat.reduceSub, Nat.reduceMul, Nat.reduceBEq, Nat.reduceBNe, Nat.reducePow, Nat.reduceDiv, Int.reduceLE, Int.reduceLT, Int.reduceToNat, Int.reduceNeg, Int.reduceAdd, Int.reduceSub, Int.reduceEq, reduceIte, reduceCtorEq, UInt8.reduceOfNat, List.nil_append]
  repeat refine And.intro (by first | omega | assumption | (simp; done) | (simp; omega) | (simp +contextual; done) | (simp_all; done) | (simp_all; omega)) ?_
  refine hK _ ?_
  clear hK K
  refine WA.retE ty_ok (xs := [.fr (.by_ (a ++ b))]) (ls' := []) (rv := [.tmp 4]) rfl hX (by decide) (fun _ => rfl) (fun _ _ h => h) ?_
  simp only [go_sem, Nat.reduceAdd, Nat.reduceLT, Nat.reduceLeDiff, Nat.reduceEqDiff, Nat.reduceSub, Nat.reduceMul, Nat.reduceBEq, Nat.reduceBNe, Nat.reducePow, Nat.reduceDiv, Int.reduceLE, Int.reduceLT, Int.reduceToNat, Int.reduceNeg, Int.reduceAdd, Int.reduceSub, Int.reduceEq, reduceIte, reduceCtorEq, UInt8.reduceOfNat, sbT]
  all_goals (first | done | exact Nat.le_refl _ | (simp; done) | (and_intros <;> first | omega | exact Nat.le_refl _ | (simp; done) | (simp; omega)))
def n7I (b : List UInt8) (m : Int) : Int := (numV (b.take 7)).tmod m
theorem numV_take (b : List UInt8) : 0 ≤ numV (b.take 7) ∧ numV (b.take 7) ≤ 72057594037927936 := by
  have := (oct_num (b.take 7) (by rw [List.length_take]; omega)).2.2.2
  exact this
theorem n7I_rng (b : List UInt8) {m : Int} (h : 1 ≤ m) : 0 ≤ n7I b m ∧ n7I b m < m := by
  unfold n7I
  have := numV_take b
  rw [Int.tmod_eq_emod_of_nonneg this.1]
  exact ⟨Int.emod_nonneg _ (by omega), Int.emod_lt_of_pos _ (by omega)⟩
def sgN7 : Sg := fun f args ls =>
  match f, args, ls with
  | 78, [.by_ bs], [] => some (.tup [.lit (.int .i64 (numV bs)), .lit (.int .i64 (numE bs))], [], True)
  | _, _, _ => none
theorem sgN7_ok : SgOK Tryd.prog sgN7 := by
  intro f args ls r ls' vc h hvc
  unfold sgN7 at h
  split at h <;> first | (simp only [Option.some.injEq, Prod.mk.injEq] at h; obtain ⟨rfl, rfl, rfl⟩ := h) | cases h
  exact ⟨(fnOK Tryd.func78 (by decide) rfl), rnumber_s _⟩
theorem num7_s (b : List UInt8) (m : Int) (hb : 7 ≤ b.length) (hm : 1 ≤ m) : FnS Tryd.prog 69 [.by_ b, .lit (.int .i64 m)] [] (.lit (.int .i64 (n7I b m))) [] := by
  have hs := sgN7_ok
  have h0 : ¬ m = 0 := by omega
  refine FnS.of Tryd.func69 rfl (N := 16) rfl (by simp) (by simp) fun X hX => ?_
  simp only [tmArgs, lentH, Nat.reduceAdd]
  refine WA.regionK ty_ok hs fun K hK => ?_
  simp only [go_sem, Nat.reduceAdd, Nat.reduceLT, Nat.reduceLeDiff, Nat.reduceEqDiff, Nat.reduceSub, Nat.reduceMul, Nat.reduceBEq, Nat.reduceBNe, Nat.reducePow, Nat.reduceDiv, Int.reduceLE, Int.reduceLT, Int.reduceToNat, Int.reduceNeg, Int.reduceAdd, Int.reduceSub, Int.reduceEq, reduceIte, reduceCtorEq, UInt8.reduceOfNat, true_and]
  repeat refine And.intro (by first | omega | assumption | (simp; done) | (simp; omega) | (simp +contextual; done) | (simp_all; done) | (simp_all; omega)) ?_
  refine hK _ ?_
  clear hK K
  refine WA.regionK ty_ok hs fun K hK => ?_
  simp only [go_sem, Nat.reduceAdd, Nat.reduceLT, Nat.reduceLeDiff, Nat.reduceEqDiff, Nat.reduceSub, Nat.reduceMul, Nat.reduceBEq, Nat.reduceBNe, Nat.reducePow, Nat.reduceDiv, Int.reduceLE, Int.reduceLT, Int.reduceToNat, Int.reduceNeg, Int.reduceAdd, Int.reduceSub, Int.reduceEq, reduceIte, reduceCtorEq, UInt8.reduceOfNat, sgN7, hb]
  repeat refine And.intro (by first | omega | assumption | (simp; done) | (simp; omega) | (simp +contextual; done) | (simp_all; done) | (simp_all; omega)) ?_
  refine hK _ ?_
  clear hK K
  refine WA.regionK ty_ok hs fun K hK => ?_
  simp only [go_sem, Nat.reduceAdd, Nat.reduceLT, Nat.reduceLeDiff, Nat.reduceEqDiff, Nat.reduceSub, Nat.reduceMul, Nat.reduceBEq, Nat.reduceBNe, Nat.reducePow, Nat.reduceDiv, Int.reduceLE, Int.reduceLT, Int.reduceToNat, Int.reduceNeg, Int.reduceAdd, Int.reduceSub, Int.reduceEq, reduceIte, reduceCtorEq, UInt8.reduceOfNat, h0]
  repeat refine And.intro (by first | omega | assumption | (simp; done) | (simp; omega) | (simp +contextual; done) | (simp_all; done) | (simp_all; omega)) ?_
  refine hK _ ?_
  clear hK K
  refine WA.retE ty_ok (xs := [.lit (.int .i64 (n7I b m))]) (ls' := []) (rv := [.tmp 4]) rfl hX (by decide) (fun _ => rfl) (fun _ _ h => h) ?_
  simp only [go_sem, Nat.reduceAdd, Nat.reduceLT, Nat.reduceLeDiff, Nat.reduceEqDiff, Nat.reduceSub, Nat.reduceMul, Nat.reduceBEq, Nat.reduceBNe, Nat.reducePow, Nat.reduceDiv, Int.reduceLE, Int.reduceLT, Int.reduceToNat, Int.reduceNeg, Int.reduceAdd, Int.reduceSub, Int.reduceEq, reduceIte, reduceCtorEq, UInt8.reduceOfNat, sbT, n7I]
  all_goals (first | done | exact Nat.le_refl _ | (simp; done) | (and_intros <;> first | omega | exact Nat.le_refl _ | (simp; done) | (simp; omega)))
def sgCg : Sg := fun f args ls =>
  match f, args, ls with
  | 57, [.lit (.int .i64 x)], [] => some (.fr (.by_ (fourS x)), [], True)
  | 71, [.by_ a, .by_ b], [] => some (.fr (.by_ (a ++ b)), [], a.length + b.length ≤ 1000000000)
  | 70, [.by_ b], [] => some (.fr (.by_ (shaS b)), [], b.length ≤ 1000000000)
  | 69, [.by_ b, .lit (.int .i64 m)], [] => some (.lit (.int .i64 (n7I b m)), [], 7 ≤ b.length ∧ 1 ≤ m)
  | _, _, _ => none
theorem sgCg_ok : SgOK Tryd.prog sgCg := by
  intro f args ls r ls' vc h hvc
  unfold sgCg at h
  split at h <;> first | (simp only [Option.some.injEq, Prod.mk.injEq] at h; obtain ⟨rfl, rfl, rfl⟩ := h) | cases h
  · exact ⟨(fnOK Tryd.func57 (by decide) rfl), four_s _⟩
  · exact ⟨(fnOK Tryd.func71 (by decide) rfl), rjoinB_s _ _ hvc⟩
  · exact ⟨(fnOK Tryd.func70 (by decide) rfl), sum_s _ hvc⟩
  · exact ⟨(fnOK Tryd.func69 (by decide) rfl), num7_s _ _ hvc.1 hvc.2⟩
theorem fourS_len (x : Int) : (fourS x).length = 4 := rfl
def chlI (r : Int) (m : List UInt8) : Int := n7I (shaS (fourS r ++ m)) 1073741789
theorem chal_s (r : Int) (m : List UInt8) (hm : m.length ≤ 100000000) : FnS Tryd.prog 72 [.lit (.int .i64 r), .by_ m] [] (.lit (.int .i64 (chlI r m))) [] := by
  have hs := sgCg_ok
  have e1 := shaS_len (fourS r ++ m)
  have e2 : List.take 32 (shaS (fourS r ++ m)) = shaS (fourS r ++ m) := List.take_of_length_le (by omega)
  have e3 : List.take (4 + m.length) (fourS r ++ m) = fourS r ++ m := List.take_of_length_le (by rw [List.length_append, fourS_len]; omega)
  have e4 : List.take 4 (fourS r) = fourS r := rfl
  refine FnS.of Tryd.func72 rfl (N := 11) rfl (by simp) (by simp) fun X hX => ?_
  simp only [tmArgs, lentH, Nat.reduceAdd]
  refine WA.regionK ty_ok hs fun K hK => ?_
  simp only [go_sem, Nat.reduceAdd, Nat.reduceLT, Nat.reduceLeDiff, Nat.reduceEqDiff, Nat.reduceSub, Nat.reduceMul, Nat.reduceBEq, Nat.reduceBNe, Nat.reducePow, Nat.reduceDiv, Int.reduceLE, Int.reduceLT, Int.reduceToNat, Int.reduceNeg, Int.reduceAdd, Int.reduceSub, Int.reduceEq, reduceIte, reduceCtorEq, UInt8.reduceOfNat, true_and]
  repeat refine And.intro (by first | omega | assumption | (simp; done) | (simp; omega) | (simp +contextual; done) | (simp_all; done) | (simp_all; omega)) ?_
  refine hK _ ?_
  clear hK K
  refine WA.regionK ty_ok hs fun K hK => ?_
  simp only [go_sem, Nat.reduceAdd, Nat.reduceLT, Nat.reduceLeDiff, Nat.reduceEqDiff, Nat.reduceSub, Nat.reduceMul, Nat.reduceBEq, Nat.reduceBNe, Nat.reducePow, Nat.reduceDiv, Int.reduceLE, Int.reduceLT, Int.reduceToNat, Int.reduceNeg, Int.reduceAdd, Int.reduceSub, Int.reduceEq, reduceIte, reduceCtorEq, UInt8.reduceOfNat, sgCg, fourS_len, e1, e2, e3, e4]
  repeat refine And.intro (by first | omega | assumption | (simp; done) | (simp; omega) | (simp +contextual; done) | (simp_all; done) | (simp_all; omega)) ?_
  refine hK _ ?_
  clear hK K
  refine WA.retE ty_ok (xs := [.lit (.int .i64 (chlI r m))]) (ls' := []) (rv := [.tmp 4]) rfl hX (by decide) (fun _ => rfl) (fun _ _ h => h) ?_
  simp only [go_sem, Nat.reduceAdd, Nat.reduceLT, Nat.reduceLeDiff, Nat.reduceEqDiff, Nat.reduceSub, Nat.reduceMul, Nat.reduceBEq, Nat.reduceBNe, Nat.reducePow, Nat.reduceDiv, Int.reduceLE, Int.reduceLT, Int.reduceToNat, Int.reduceNeg, Int.reduceAdd, Int.reduceSub, Int.reduceEq, reduceIte, reduceCtorEq, UInt8.reduceOfNat, sbT, chlI]
  all_goals (first | done | exact Nat.le_refl _ | (simp; done) | (and_intros <;> first | omega | exact Nat.le_refl _ | (simp; done) | (simp; omega)))
def nnI (k : Int) (m : List UInt8) : Int := 1 + n7I (shaS (fourS k ++ m)) 1073741788
def sigE (k : Int) (m : List UInt8) : Int := chlI (pwI 4 (nnI k m)) m
def sigS (k : Int) (m : List UInt8) : Int := (nnI k m + sigE k m * k).tmod 1073741789
def sgSi : Sg := fun f args ls =>
  match f, args, ls with
  | 66, [.lit (.int .i64 x)], [] => some (.lit (.bool (secB x)), [], True)
  | 55, [.lit (.int .i64 x), .lit (.int .i64 k)], [] => some (.lit (.int .i64 (pwI x k)), [], (0 ≤ x ∧ x < 2147483579) ∧ 0 ≤ k ∧ k ≤ 2147483647)
  | 72, [.lit (.int .i64 r), .by_ m], [] => some (.lit (.int .i64 (chlI r m)), [], m.length ≤ 100000000)
  | 57, [.lit (.int .i64 x)], [] => some (.fr (.by_ (fourS x)), [], True)
  | 71, [.by_ a, .by_ b], [] => some (.fr (.by_ (a ++ b)), [], a.length + b.length ≤ 1000000000)
  | 70, [.by_ b], [] => some (.fr (.by_ (shaS b)), [], b.length ≤ 1000000000)
  | 69, [.by_ b, .lit (.int .i64 m)], [] => some (.lit (.int .i64 (n7I b m)), [], 7 ≤ b.length ∧ 1 ≤ m)
  | _, _, _ => none
theorem sgSi_ok : SgOK Tryd.prog sgSi := by
  intro f args ls r ls' vc h hvc
  unfold sgSi at h
  split at h <;> first | (simp only [Option.some.injEq, Prod.mk.injEq] at h; obtain ⟨rfl, rfl, rfl⟩ := h) | cases h
  · exact ⟨(fnOK Tryd.func66 (by decide) rfl), rsec_s _⟩
  · exact ⟨(fnOK Tryd.func55 (by decide) rfl), rpow_s _ _ hvc.1.1 hvc.1.2 hvc.2.1 hvc.2.2⟩
  · exact ⟨(fnOK Tryd.func72 (by decide) rfl), chal_s _ _ hvc⟩
  · exact ⟨(fnOK Tryd.func57 (by decide) rfl), four_s _⟩
  · exact ⟨(fnOK Tryd.func71 (by decide) rfl), rjoinB_s _ _ hvc⟩
  · exact ⟨(fnOK Tryd.func70 (by decide) rfl), sum_s _ hvc⟩
  · exact ⟨(fnOK Tryd.func69 (by decide) rfl), num7_s _ _ hvc.1 hvc.2⟩
theorem sign_s (k : Int) (m : List UInt8) (hk : secB k = true) (hm : m.length ≤ 100000000) : FnS Tryd.prog 62 [.lit (.int .i64 k), .by_ m] [] (.tup [.agg [.lit (.int .i64 (sigE k m)), .lit (.int .i64 (sigS k m))], .lit (.int .i64 0)]) [] := by
  have hs := sgSi_ok
  have hk2 := secB_t hk
  have e1 := shaS_len (fourS k ++ m)
  have e2 : List.take 32 (shaS (fourS k ++ m)) = shaS (fourS k ++ m) := List.take_of_length_le (by omega)
  have e3 : List.take (4 + m.length) (fourS k ++ m) = fourS k ++ m := List.take_of_length_le (by rw [List.length_append, fourS_len]; omega)
  have e4 : List.take 4 (fourS k) = fourS k := rfl
  have r1 := n7I_rng (shaS (fourS k ++ m)) (show (1 : Int) ≤ 1073741788 by omega)
  have en : nnI k m = 1 + n7I (shaS (fourS k ++ m)) 1073741788 := rfl
  refine FnS.of Tryd.func62 rfl (N := 31) rfl (by simp) (by simp) fun X hX => ?_
  simp only [tmArgs, lentH, Nat.reduceAdd]
  refine WA.regionK ty_ok hs fun K hK => ?_
  simp only [go_sem, Nat.reduceAdd, Nat.reduceLT, Nat.reduceLeDiff, Nat.reduceEqDiff, Nat.reduceSub, Nat.reduceMul, Nat.reduceBEq, Nat.reduceBNe, Nat.reducePow, Nat.reduceDiv, Int.reduceLE, Int.reduceLT, Int.reduceToNat, Int.reduceNeg, Int.reduceAdd, Int.reduceSub, Int.reduceEq, reduceIte, reduceCtorEq, UInt8.reduceOfNat, true_and]
  repeat refine And.intro (by first | omega | assumption | (simp; done) | (simp; omega) | (simp +contextual; done) | (simp_all; done) | (simp_all; omega)) ?_
  refine hK _ ?_
  clear hK K
  refine WA.seq ?_
  refine WA.regionK ty_ok hs fun K hK => ?_
  simp only [go_sem, Nat.reduceAdd, Nat.reduceLT, Nat.reduceLeDiff, Nat.reduceEqDiff, Nat.reduceSub, Nat.reduceMul, Nat.reduceBEq, Nat.reduceBNe, Nat.reducePow, Nat.reduceDiv, Int.reduceLE, Int.reduceLT, Int.reduceToNat, Int.reduceNeg, Int.reduceAdd, Int.reduceSub, Int.reduceEq, reduceIte, reduceCtorEq, UInt8.reduceOfNat, sgSi, hk]
  repeat refine And.intro (by first | omega | assumption | (simp; done) | (simp; omega) | (simp +contextual; done) | (simp_all; done) | (simp_all; omega)) ?_
  refine hK _ ?_
  clear hK K
  refine WA.cond rfl (fun h => ?_) (fun h => ?_)
  ·
    cases h
  ·
    with_reducible refine WA.skipN ?_
    repeat first | with_reducible refine WN.t ?_ | with_reducible refine WN.b ?_
    refine WA.regionK ty_ok hs fun K hK => ?_
    simp only [go_sem, Nat.reduceAdd, Nat.reduceLT, Nat.reduceLeDiff, Nat.reduceEqDiff, Nat.reduceSub, Nat.reduceMul, Nat.reduceBEq, Nat.reduceBNe, Nat.reducePow, Nat.reduceDiv, Int.reduceLE, Int.reduceLT, Int.reduceToNat, Int.reduceNeg, Int.reduceAdd, Int.reduceSub, Int.reduceEq, reduceIte, reduceCtorEq, UInt8.reduceOfNat, sgSi, fourS_len, e1, e2, e3, e4]
    repeat refine And.intro (by first | omega | assumption | (simp; done) | (simp; omega) | (simp +contextual; done) | (simp_all; done) | (simp_all; omega)) ?_
    refine hK _ ?_
    clear hK K
    rw [← en]
    have r2 : 0 ≤ nnI k m ∧ nnI k m ≤ 2147483647 := by omega
    refine WA.regionK ty_ok hs fun K hK => ?_
    simp only [go_sem, Nat.reduceAdd, Nat.reduceLT, Nat.reduceLeDiff, Nat.reduceEqDiff, Nat.reduceSub, Nat.reduceMul, Nat.reduceBEq, Nat.reduceBNe, Nat.reducePow, Nat.reduceDiv, Int.reduceLE, Int.reduceLT, Int.reduceToNat, Int.reduceNeg, Int.reduceAdd, Int.reduceSub, Int.reduceEq, reduceIte, reduceCtorEq, UInt8.reduceOfNat, sgSi]
    repeat refine And.intro (by first | omega | assumption | (simp; done) | (simp; omega) | (simp +contextual; done) | (simp_all; done) | (simp_all; omega)) ?_
    refine hK _ ?_
    clear hK K
    have ee : sigE k m = chlI (pwI 4 (nnI k m)) m := rfl
    have r3 := n7I_rng (shaS (fourS (pwI 4 (nnI k m)) ++ m)) (show (1 : Int) ≤ 1073741789 by omega)
    have ec : chlI (pwI 4 (nnI k m)) m = n7I (shaS (fourS (pwI 4 (nnI k m)) ++ m)) 1073741789 := rfl
    rw [← ec, ← ee] at r3
    rw [← ee]
    have r4 : 0 ≤ sigE k m * k := Int.mul_nonneg r3.1 (by omega)
    have r5 : sigE k m * k ≤ 1073741789 * 1073741789 := Int.mul_le_mul (by omega) (by omega) (by omega) (by omega)
    refine WA.regionK ty_ok hs fun K hK => ?_
    simp only [go_sem, Nat.reduceAdd, Nat.reduceLT, Nat.reduceLeDiff, Nat.reduceEqDiff, Nat.reduceSub, Nat.reduceMul, Nat.reduceBEq, Nat.reduceBNe, Nat.reducePow, Nat.reduceDiv, Int.reduceLE, Int.reduceLT, Int.reduceToNat, Int.reduceNeg, Int.reduceAdd, Int.reduceSub, Int.reduceEq, reduceIte, reduceCtorEq, UInt8.reduceOfNat, true_and]
    repeat refine And.intro (by first | omega | assumption | (simp; done) | (simp; omega) | (simp +contextual; done) | (simp_all; done) | (simp_all; omega)) ?_
    refine hK _ ?_
    clear hK K
    refine WA.retE ty_ok (xs := [.agg [.lit (.int .i64 (sigE k m)), .lit (.int .i64 (sigS k m))], .lit (.int .i64 0)]) (ls' := []) (rv := [.cell 4 42, .tmp 5]) rfl hX (by decide) (fun _ => rfl) (fun _ _ h => h) ?_
    simp only [go_sem, Nat.reduceAdd, Nat.reduceLT, Nat.reduceLeDiff, Nat.reduceEqDiff, Nat.reduceSub, Nat.reduceMul, Nat.reduceBEq, Nat.reduceBNe, Nat.reducePow, Nat.reduceDiv, Int.reduceLE, Int.reduceLT, Int.reduceToNat, Int.reduceNeg, Int.reduceAdd, Int.reduceSub, Int.reduceEq, reduceIte, reduceCtorEq, UInt8.reduceOfNat, sbT, sigS]
    all_goals (first | done | exact Nat.le_refl _ | (simp; done) | (and_intros <;> first | omega | exact Nat.le_refl _ | (simp; done) | (simp; omega)))
end Go.Proofs.YtgmmdijmlnehlaaDoor
