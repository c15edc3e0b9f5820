import Derived.Test.YtjhiagelgleomaaMemA
import Derived.Handy
namespace Go.Proofs.Ytjhiagelgleomaa
open Go.RowKit Go.TravelBase Go.TravelAbs
set_option linter.unusedVariables false
set_option linter.unusedSimpArgs false











theorem sclone_any (A : Option Addr) (n c : Nat) (xs : List UInt8) (w : World) (h : Rd w A n c (bvs xs)) (hr : n ≤ 140737488355328) :
    Calls Try.prog 36 #[.slice A n c] w (RetS 5 n (bvs xs) w) := by
  have hm := h.max
  obtain ⟨i0, hi, hz0, hz1, hz2⟩ := info_parts info_u8
  cases A with
  | none =>
    obtain ⟨rfl, rfl, h0⟩ := h.none_
    rw [h0]
    have k1 := fun (w : World) (a : Option Addr) (n c : Nat) => Lib.run_eql_slice_nil (P := Try.prog) w 22 5 a n c 0 0 Try.underlying22
    go_enter Try.func36, Try.ntmps36
    go_wp2
    go_ret
    exact RetS.ap (Ap.nil_ _ _ _) (Below.refl _ _)
  | some ad =>
    have k1 := fun (w : World) (a : Option Addr) (n c : Nat) => Lib.run_eql_slice_nil (P := Try.prog) w 22 5 a n c 0 0 Try.underlying22
    go_enter Try.func36, Try.ntmps36
    go_wp2_with (at_builtin; refine wpList_append_ap _ rfl _ _ 22 rfl w.heap.size 5 i0 _ 1 Try.underlying22 hi hz0 hz1 hz2 rfl _ 0 0 [] rfl (Ap.empty _ _ _ _) (some ad) n c (bvs xs) rfl (h.alloc _) (one_bvs _) (by omega) (by unfold maxLen; omega) (by simp) ?_; intro A2 c2 w2 hap hgr hb hne)
    go_ret
    simp only [Nat.zero_add, List.nil_append] at hap ⊢
    exact RetS.ap hap (((Below.refl _ _).alloc (Nat.le_refl _) _).trans hb)

theorem sclone_s (bs : List UInt8) (hb : bs.length ≤ 140737488355328) : FnS Try.prog 36 [.by_ bs] [] (.fr (.by_ bs)) [] :=
  FnS.fr1 (fun w S m vs hs hl ha => by
    obtain ⟨v, rfl, h⟩ := arr1 hl ha
    obtain ⟨A, c, rfl, hr⟩ := Rd_of_VR h hs
    exact sclone_any A _ c bs w hr hb)

/-! ### memory.read -/
def sg1 : Sg := fun f args ls =>
  match f, args, ls with
  | 41, [.by_ bs], [] => some (.tup [.lit (.int .i64 (numV bs)), .lit (.int .i64 (numE bs))], [], True)
  | 36, [.by_ bs], [] => some (.fr (.by_ bs), [], bs.length ≤ 140737488355328)
  | _, _, _ => none
theorem sg1_ok : SgOK Try.prog sg1 := by
  intro f args ls r ls' vc h hvc
  unfold sg1 at h
  split at h
  · simp only [Option.some.injEq, Prod.mk.injEq] at h
    obtain ⟨rfl, rfl, rfl⟩ := h
    exact ⟨fnOK Try.func41 (by decide) rfl, number_s _⟩
  · simp only [Option.some.injEq, Prod.mk.injEq] at h
    obtain ⟨rfl, rfl, rfl⟩ := h
    exact ⟨fnOK Try.func36 (by decide) rfl, sclone_s _ hvc⟩
  · cases h
/-- What a slot says: whether it is complete, its number and its record. -/
def rO (b : List UInt8) : Bool := decide (b.length = 265) && decide ((b.getD 0 0).toNat = 1) && decide (numV ((b.take 9).drop 7) ≤ 256)
def rN (b : List UInt8) : Int := if rO b then numV ((b.take 7).drop 1) else 0
def rR (b : List UInt8) : List UInt8 := if rO b then (b.take (9 + numV ((b.take 9).drop 7)).toNat).drop 9 else []
def readA (b : List UInt8) : AV := .tup [.agg [.lit (.int .i64 (rN b)), .by_ (rR b)], .lit (.bool (rO b))]
theorem numV_nn (l : List UInt8) : 0 ≤ numV l := by unfold numV; split <;> omega
theorem read_s (b : List UInt8) : FnS Try.prog 38 [.by_ b] [] (readA b) [] := by
  have hs := sg1_ok
  refine FnS.of Try.func38 rfl (N := 40) rfl (by simp) (by simp) fun X hX => ?_
  simp only [tmArgs, lentH, Nat.reduceAdd]
  refine WA.regionK ty_ok hs fun K hK => ?_
  simp only [go_sem, Nat.reduceAdd, Nat.reduceLT, Nat.reduceLeDiff, Nat.reduceEqDiff, Nat.reduceSub, Nat.reduceMul, Nat.reduceBEq, Nat.reduceBNe, Nat.reducePow, Nat.reduceDiv, Int.reduceLE, Int.reduceLT, Int.reduceToNat, Int.reduceNeg, Int.reduceAdd, Int.reduceSub, Int.reduceEq, reduceIte, reduceCtorEq, UInt8.reduceOfNat, sg1]
  first
  | refine hK _ ?_
  | refine And.intro (by first | omega | (simp; done) | (simp; omega) | (simp +contextual; done) | (simp_all; done) | (simp_all; omega)) (hK _ ?_)
  clear hK K
  refine WA.seq ?_
  refine WA.regionK ty_ok hs fun K hK => ?_
  simp only [go_sem, Nat.reduceAdd, Nat.reduceLT, Nat.reduceLeDiff, Nat.reduceEqDiff, Nat.reduceSub, Nat.reduceMul, Nat.reduceBEq, Nat.reduceBNe, Nat.reducePow, Nat.reduceDiv, Int.reduceLE, Int.reduceLT, Int.reduceToNat, Int.reduceNeg, Int.reduceAdd, Int.reduceSub, Int.reduceEq, reduceIte, reduceCtorEq, UInt8.reduceOfNat, sg1]
  first
  | refine hK _ ?_
  | refine And.intro (by first | omega | (simp; done) | (simp; omega) | (simp +contextual; done) | (simp_all; done) | (simp_all; omega)) (hK _ ?_)
  clear hK K
  refine WA.cond rfl (fun h => ?_) (fun h => ?_)
  ·
    refine WA.regionK ty_ok hs fun K hK => ?_
    simp only [go_sem, Nat.reduceAdd, Nat.reduceLT, Nat.reduceLeDiff, Nat.reduceEqDiff, Nat.reduceSub, Nat.reduceMul, Nat.reduceBEq, Nat.reduceBNe, Nat.reducePow, Nat.reduceDiv, Int.reduceLE, Int.reduceLT, Int.reduceToNat, Int.reduceNeg, Int.reduceAdd, Int.reduceSub, Int.reduceEq, reduceIte, reduceCtorEq, UInt8.reduceOfNat, sg1]
    first
    | refine hK _ ?_
    | refine And.intro (by first | omega | (simp; done) | (simp; omega) | (simp +contextual; done) | (simp_all; done) | (simp_all; omega)) (hK _ ?_)
    clear hK K
    have e : rO b = false := by
      unfold rO
      by_cases h5 : b.length = 265
      · simp only [h5, Int.cast_ofNat_Int, bne_self_eq_false, cond_false, bne_iff_ne] at h
        have : ¬ (b.getD 0 0).toNat = 1 := by omega
        simp only [decide_eq_false this, Bool.and_false, Bool.false_and]
      · simp [h5]
    unfold readA rN rR
    rw [e]
    refine WA.retE ty_ok (xs := [.agg [.lit (.int .i64 0), .by_ []], .lit (.bool false)]) (ls' := []) (rv := [.cell 2 57, .tmp 3]) rfl hX (by decide) (fun _ => rfl) (fun _ _ h => h) ?_
    simp only [go_sem, Nat.reduceAdd, Nat.reduceLT, Nat.reduceLeDiff, Nat.reduceEqDiff, Nat.reduceSub, Nat.reduceMul, Nat.reduceBEq, Nat.reduceBNe, Nat.reducePow, Nat.reduceDiv, Int.reduceLE, Int.reduceLT, Int.reduceToNat, Int.reduceNeg, Int.reduceAdd, Int.reduceSub, Int.reduceEq, reduceIte, reduceCtorEq, UInt8.reduceOfNat, sbT]
  · refine WA.skipT ?_
    have h1 : b.length = 265 ∧ (b.getD 0 0).toNat = 1 := by
      by_cases h5 : b.length = 265
      · simp only [h5, Int.cast_ofNat_Int, bne_self_eq_false, cond_false, bne_eq_false_iff_eq] at h
        exact ⟨h5, by omega⟩
      · have : ((b.length : Int) != 265) = true := by rw [bne_iff_ne]; omega
        rw [this] at h
        cases h
    obtain ⟨h5, h1⟩ := h1
    clear h
    refine WA.regionK ty_ok hs fun K hK => ?_
    simp only [go_sem, Nat.reduceAdd, Nat.reduceLT, Nat.reduceLeDiff, Nat.reduceEqDiff, Nat.reduceSub, Nat.reduceMul, Nat.reduceBEq, Nat.reduceBNe, Nat.reducePow, Nat.reduceDiv, Int.reduceLE, Int.reduceLT, Int.reduceToNat, Int.reduceNeg, Int.reduceAdd, Int.reduceSub, Int.reduceEq, reduceIte, reduceCtorEq, UInt8.reduceOfNat, sg1, h5]
    first
    | refine hK _ ?_
    | refine And.intro (by first | omega | (simp; done) | (simp; omega) | (simp +contextual; done) | (simp_all; done) | (simp_all; omega)) (hK _ ?_)
    clear hK K
    refine WA.regionK ty_ok hs fun K hK => ?_
    simp only [go_sem, Nat.reduceAdd, Nat.reduceLT, Nat.reduceLeDiff, Nat.reduceEqDiff, Nat.reduceSub, Nat.reduceMul, Nat.reduceBEq, Nat.reduceBNe, Nat.reducePow, Nat.reduceDiv, Int.reduceLE, Int.reduceLT, Int.reduceToNat, Int.reduceNeg, Int.reduceAdd, Int.reduceSub, Int.reduceEq, reduceIte, reduceCtorEq, UInt8.reduceOfNat, sg1, h5]
    first
    | refine hK _ ?_
    | refine And.intro (by first | omega | (simp; done) | (simp; omega) | (simp +contextual; done) | (simp_all; done) | (simp_all; omega)) (hK _ ?_)
    clear hK K
    refine WA.seq ?_
    refine WA.regionK ty_ok hs fun K hK => ?_
    simp only [go_sem, Nat.reduceAdd, Nat.reduceLT, Nat.reduceLeDiff, Nat.reduceEqDiff, Nat.reduceSub, Nat.reduceMul, Nat.reduceBEq, Nat.reduceBNe, Nat.reducePow, Nat.reduceDiv, Int.reduceLE, Int.reduceLT, Int.reduceToNat, Int.reduceNeg, Int.reduceAdd, Int.reduceSub, Int.reduceEq, reduceIte, reduceCtorEq, UInt8.reduceOfNat, sg1, h5]
    first
    | refine hK _ ?_
    | refine And.intro (by first | omega | (simp; done) | (simp; omega) | (simp +contextual; done) | (simp_all; done) | (simp_all; omega)) (hK _ ?_)
    clear hK K
    refine WA.cond rfl (fun h => ?_) (fun h => ?_)
    ·
      refine WA.regionK ty_ok hs fun K hK => ?_
      simp only [go_sem, Nat.reduceAdd, Nat.reduceLT, Nat.reduceLeDiff, Nat.reduceEqDiff, Nat.reduceSub, Nat.reduceMul, Nat.reduceBEq, Nat.reduceBNe, Nat.reducePow, Nat.reduceDiv, Int.reduceLE, Int.reduceLT, Int.reduceToNat, Int.reduceNeg, Int.reduceAdd, Int.reduceSub, Int.reduceEq, reduceIte, reduceCtorEq, UInt8.reduceOfNat, sg1, h5]
      first
      | refine hK _ ?_
      | refine And.intro (by first | omega | (simp; done) | (simp; omega) | (simp +contextual; done) | (simp_all; done) | (simp_all; omega)) (hK _ ?_)
      clear hK K
      have e : rO b = false := by
        unfold rO
        have : ¬ numV ((b.take 9).drop 7) ≤ 256 := by simpa using h
        simp [this]
      unfold readA rN rR
      rw [e]
      refine WA.retE ty_ok (xs := [.agg [.lit (.int .i64 0), .by_ []], .lit (.bool false)]) (ls' := []) (rv := [.cell 2 57, .tmp 3]) rfl hX (by decide) (fun _ => rfl) (fun _ _ h => h) ?_
      simp only [go_sem, Nat.reduceAdd, Nat.reduceLT, Nat.reduceLeDiff, Nat.reduceEqDiff, Nat.reduceSub, Nat.reduceMul, Nat.reduceBEq, Nat.reduceBNe, Nat.reducePow, Nat.reduceDiv, Int.reduceLE, Int.reduceLT, Int.reduceToNat, Int.reduceNeg, Int.reduceAdd, Int.reduceSub, Int.reduceEq, reduceIte, reduceCtorEq, UInt8.reduceOfNat, sbT]
    · refine WA.skipT ?_
      have h2 : numV ((b.take 9).drop 7) ≤ 256 := by simpa using h
      have h3 := numV_nn ((b.take 9).drop 7)
      have e : rO b = true := by simp only [rO, decide_eq_true h5, decide_eq_true h1, decide_eq_true h2, Bool.and_true]
      clear h
      have h4 : ((9 + numV ((b.take 9).drop 7)).toNat ≤ 265) = True := eq_true (by omega)
      refine WA.regionK ty_ok hs fun K hK => ?_
      simp only [go_sem, Nat.reduceAdd, Nat.reduceLT, Nat.reduceLeDiff, Nat.reduceEqDiff, Nat.reduceSub, Nat.reduceMul, Nat.reduceBEq, Nat.reduceBNe, Nat.reducePow, Nat.reduceDiv, Int.reduceLE, Int.reduceLT, Int.reduceToNat, Int.reduceNeg, Int.reduceAdd, Int.reduceSub, Int.reduceEq, reduceIte, reduceCtorEq, UInt8.reduceOfNat, sg1, h5, h4]
      refine And.intro (by omega) (hK _ ?_)
      clear hK K
      unfold readA rN rR
      rw [e]
      refine WA.retE ty_ok (xs := [.agg [.lit (.int .i64 (numV ((b.take 7).drop 1))), .by_ ((b.take (9 + numV ((b.take 9).drop 7)).toNat).drop 9)], .lit (.bool true)]) (ls' := []) (rv := [.cell 2 57, .tmp 3]) rfl hX (by decide) (fun _ => rfl) (fun _ _ h => h) ?_
      simp only [go_sem, Nat.reduceAdd, Nat.reduceLT, Nat.reduceLeDiff, Nat.reduceEqDiff, Nat.reduceSub, Nat.reduceMul, Nat.reduceBEq, Nat.reduceBNe, Nat.reducePow, Nat.reduceDiv, Int.reduceLE, Int.reduceLT, Int.reduceToNat, Int.reduceNeg, Int.reduceAdd, Int.reduceSub, Int.reduceEq, reduceIte, reduceCtorEq, UInt8.reduceOfNat, h5, h4]
      have hl : (List.drop 9 (List.take (9 + numV (List.drop 7 (List.take 9 b))).toNat b)).length = (9 + numV (List.drop 7 (List.take 9 b))).toNat - 9 := by
        rw [List.length_drop, List.length_take]
        omega
      exact ⟨by omega, List.take_of_length_le (by omega)⟩
end Go.Proofs.Ytjhiagelgleomaa
