import Derived.Test.YtjhiagelgleomaaMemA
import Derived.Handy
namespace Go.Proofs.Ytjhiagelgleomaa
open Go.RowKit Go.TravelBase Go.TravelAbs
set_option linter.unusedVariables false
set_option linter.unusedSimpArgs false






theorem sclone_any (A : Option Addr) (n c : Nat) (xs : List UInt8) (w : World) (h : Rd w A n c (bvs xs)) (hr : n ≤ 140737488355328) :
    Calls Try.prog 36 #[.slice A n c] w (RetS 5 n (bvs xs) w) := by
  have hm := h.max
  obtain ⟨i0, hi, hz0, hz1, hz2⟩ := info_parts info_u8
  cases A with
  | none =>
    obtain ⟨rfl, rfl, h0⟩ := h.none_
    rw [h0]
    have k1 := fun (w : World) (a : Option Addr) (n c : Nat) => Lib.run_eql_slice_nil (P := Try.prog) w 22 5 a n c 0 0 Try.underlying22
    go_enter Try.func36, Try.ntmps36
    go_wp2
    go_ret
    exact RetS.ap (Ap.nil_ _ _ _) (Below.refl _ _)
  | some ad =>
    have k1 := fun (w : World) (a : Option Addr) (n c : Nat) => Lib.run_eql_slice_nil (P := Try.prog) w 22 5 a n c 0 0 Try.underlying22
    go_enter Try.func36, Try.ntmps36
    go_wp2_with (at_builtin; refine wpList_append_ap _ rfl _ _ 22 rfl w.heap.size 5 i0 _ 1 Try.underlying22 hi hz0 hz1 hz2 rfl _ 0 0 [] rfl (Ap.empty _ _ _ _) (some ad) n c (bvs xs) rfl (h.alloc _) (one_bvs _) (by omega) (by unfold maxLen; omega) (by simp) ?_; intro A2 c2 w2 hap hgr hb hne)
    go_ret
    simp only [Nat.zero_add, List.nil_append] at hap ⊢
    exact RetS.ap hap (((Below.refl _ _).alloc (Nat.le_refl _) _).trans hb)

theorem sclone_s (bs : List UInt8) (hb : bs.length ≤ 140737488355328) : FnS Try.prog 36 [.by_ bs] [] (.fr (.by_ bs)) [] :=
  FnS.fr1 (fun w S m vs hs hl ha => by
    obtain ⟨v, rfl, h⟩ := arr1 hl ha
    obtain ⟨A, c, rfl, hr⟩ := Rd_of_VR h hs
    exact sclone_any A _ c bs w hr hb)

/-! ### memory.read -/
def sg1 : Sg := fun f args ls =>
  match f, args, ls with
  | 41, [.by_ bs], [] => some (.tup [.lit (.int .i64 (numV bs)), .lit (.int .i64 (numE bs))], [], True)
  | 36, [.by_ bs], [] => some (.fr (.by_ bs), [], bs.length ≤ 140737488355328)
  | _, _, _ => none
theorem sg1_ok : SgOK Try.prog sg1 := by
  intro f args ls r ls' vc h hvc
  unfold sg1 at h
  split at h
  · simp only [Option.some.injEq, Prod.mk.injEq] at h
    obtain ⟨rfl, rfl, rfl⟩ := h
    exact ⟨fnOK Try.func41 (by decide) rfl, number_s _⟩
  · simp only [Option.some.injEq, Prod.mk.injEq] at h
    obtain ⟨rfl, rfl, rfl⟩ := h
    exact ⟨fnOK Try.func36 (by decide) rfl, sclone_s _ hvc⟩
  · cases h
/-- What a slot says: whether it is complete, its number and its record. -/
def rO (b : List UInt8) : Bool := decide (b.length = 265) && decide ((b.getD 0 0).toNat = 1) && decide (numV ((b.take 9).drop 7) ≤ 256)
def rN (b : List UInt8) : Int := if rO b then numV ((b.take 7).drop 1) else 0
def rR (b : List UInt8) : List UInt8 := if rO b then (b.take (9 + numV ((b.take 9).drop 7)).toNat).drop 9 else []
def readA (b : List UInt8) : AV := .tup [.agg [.lit (.int .i64 (rN b)), .by_ (rR b)], .lit (.bool (rO b))]
theorem numV_nn (l : List UInt8) : 0 ≤ numV l := by unfold numV; split <;> omega
theorem read_s (b : List UInt8) : FnS Try.prog 38 [.by_ b] [] (readA b) [] := by
  have hs := sg1_ok
  refine FnS.of Try.func38 rfl (N := 40) rfl (by simp) (by simp) fun X hX => ?_
  simp only [tmArgs, lentH, Nat.reduceAdd]
  refine WA.regionK ty_ok hs fun K hK => ?_
  simp only [EvR, EvD, maxLen, byte_lt, byte_lti, byte_lei, UInt8.ofNat_toNat, wrap_byte, u8_nn, u8_lt, u8_le, cndB, beq_true, beq_false, imp_self, and_self, Bool.not_not, Bool.and_self, inR_i64, inR_u8, evL, evD, visH, addE, allH, inL, wrB, keyOK, ownK, ordB, evG, evX, evA, evM, evC, bop, bopI, bopS, uop, pickA, cmpI, isCmp, opnd, gt, lk, putT, stepS, stp, cnd, idx, sub, isA, ldA, zeroA, zOK, isU8, isBy, emptyC, catC, catOK, cpA, cpOK, mkC, mkOK, asL, okL, okc, cN, cE, cAt, bA, toB, byteOK_int, setE, putX, putL, fillA, fillOK, AV.cl, AV.one, Value.oneCell', TK.row, Option.getD_some, Option.getD_none, Option.map_some, Option.map_none, Option.bind_some, Option.bind_none, cvA, cvX, cvL, cv1, isL, List.getElem?_cons_zero, List.getElem?_cons_succ, List.nil_append, List.cons_append, List.append_nil, List.map_cons, List.map_nil, List.length_map, List.length_cons, List.length_nil, List.take_zero, List.drop_zero, List.take_succ_cons, List.drop_succ_cons, List.drop_nil, List.take_nil, List.take_length, List.headD_cons, List.map_replicate, List.length_replicate, List.length_take, List.length_drop, List.length_append, List.length_set, List.all_nil, List.all_cons, List.getD_cons_zero, List.getD_cons_succ, List.set_cons_zero, List.set_cons_succ, List.isEmpty_nil, List.mem_cons, List.not_mem_nil, or_false, false_or, or_true, true_or, forall_eq_or_imp, forall_eq, List.range_succ, List.range_zero, bne_iff_ne, ne_eq, rcv, rcvL, rcvP, adH, lentAds, frA, frL, frP, lkAll, okO, dOK, nFr, RT, RT1, Tr_lit, Tr_by, Tr_agg, Tr_nil, Tr_li, TrC_lie, trE_nil, trE_cons, trA_nil, trA_cons, AV.cl, TrC_by, decide_true, decide_false, Bool.and_true, Bool.true_and, Bool.and_false, Bool.false_and, Bool.or_true, Bool.or_false, Bool.false_or, Bool.true_or, Bool.not_true, Bool.not_false, Bool.false_eq_true, cond_true, cond_false, beq_self_eq_true, true_and, and_true, true_implies, implies_true, false_implies, not_true_eq_false, not_false_eq_true, Nat.reduceAdd, Nat.reduceLT, Nat.reduceLeDiff, Nat.reduceEqDiff, Nat.reduceSub, Nat.reduceMul, Nat.reduceBEq, Nat.reduceBNe, Nat.reducePow, Nat.reduceDiv, Nat.min_self, Nat.min_def, Int.cast_ofNat_Int, Int.reduceLE, Int.reduceLT, Int.reduceToNat, Int.reduceNeg, Int.reduceAdd, Int.reduceSub, Int.reduceEq, reduceIte, reduceCtorEq, if_true, if_false, Int.toNat_natCast, UInt8.reduceOfNat, Nat.zero_add, Nat.add_zero, Nat.sub_zero, List.nodup_nil, List.nodup_cons, Option.mem_def, Option.some.injEq, forall_eq', ty_2, ty_3, ty_4, ty_5, ty_9, ty_12, ty_21, ty_22, ty_23, ty_24, ty_25, ty_26, ty_31, ty_39, ty_41, ty_42, ty_45, ty_56, ty_57, ty_62, ty_63, ty_64, ty_65, ty_68, ty_81, sg1]
  first
  | refine hK _ ?_
  | refine And.intro (by first | omega | (simp; done) | (simp; omega) | (simp +contextual; done) | (simp_all; done) | (simp_all; omega)) (hK _ ?_)
  clear hK K
  refine WA.seq ?_
  refine WA.regionK ty_ok hs fun K hK => ?_
  simp only [EvR, EvD, maxLen, byte_lt, byte_lti, byte_lei, UInt8.ofNat_toNat, wrap_byte, u8_nn, u8_lt, u8_le, cndB, beq_true, beq_false, imp_self, and_self, Bool.not_not, Bool.and_self, inR_i64, inR_u8, evL, evD, visH, addE, allH, inL, wrB, keyOK, ownK, ordB, evG, evX, evA, evM, evC, bop, bopI, bopS, uop, pickA, cmpI, isCmp, opnd, gt, lk, putT, stepS, stp, cnd, idx, sub, isA, ldA, zeroA, zOK, isU8, isBy, emptyC, catC, catOK, cpA, cpOK, mkC, mkOK, asL, okL, okc, cN, cE, cAt, bA, toB, byteOK_int, setE, putX, putL, fillA, fillOK, AV.cl, AV.one, Value.oneCell', TK.row, Option.getD_some, Option.getD_none, Option.map_some, Option.map_none, Option.bind_some, Option.bind_none, cvA, cvX, cvL, cv1, isL, List.getElem?_cons_zero, List.getElem?_cons_succ, List.nil_append, List.cons_append, List.append_nil, List.map_cons, List.map_nil, List.length_map, List.length_cons, List.length_nil, List.take_zero, List.drop_zero, List.take_succ_cons, List.drop_succ_cons, List.drop_nil, List.take_nil, List.take_length, List.headD_cons, List.map_replicate, List.length_replicate, List.length_take, List.length_drop, List.length_append, List.length_set, List.all_nil, List.all_cons, List.getD_cons_zero, List.getD_cons_succ, List.set_cons_zero, List.set_cons_succ, List.isEmpty_nil, List.mem_cons, List.not_mem_nil, or_false, false_or, or_true, true_or, forall_eq_or_imp, forall_eq, List.range_succ, List.range_zero, bne_iff_ne, ne_eq, rcv, rcvL, rcvP, adH, lentAds, frA, frL, frP, lkAll, okO, dOK, nFr, RT, RT1, Tr_lit, Tr_by, Tr_agg, Tr_nil, Tr_li, TrC_lie, trE_nil, trE_cons, trA_nil, trA_cons, AV.cl, TrC_by, decide_true, decide_false, Bool.and_true, Bool.true_and, Bool.and_false, Bool.false_and, Bool.or_true, Bool.or_false, Bool.false_or, Bool.true_or, Bool.not_true, Bool.not_false, Bool.false_eq_true, cond_true, cond_false, beq_self_eq_true, true_and, and_true, true_implies, implies_true, false_implies, not_true_eq_false, not_false_eq_true, Nat.reduceAdd, Nat.reduceLT, Nat.reduceLeDiff, Nat.reduceEqDiff, Nat.reduceSub, Nat.reduceMul, Nat.reduceBEq, Nat.reduceBNe, Nat.reducePow, Nat.reduceDiv, Nat.min_self, Nat.min_def, Int.cast_ofNat_Int, Int.reduceLE, Int.reduceLT, Int.reduceToNat, Int.reduceNeg, Int.reduceAdd, Int.reduceSub, Int.reduceEq, reduceIte, reduceCtorEq, if_true, if_false, Int.toNat_natCast, UInt8.reduceOfNat, Nat.zero_add, Nat.add_zero, Nat.sub_zero, List.nodup_nil, List.nodup_cons, Option.mem_def, Option.some.injEq, forall_eq', ty_2, ty_3, ty_4, ty_5, ty_9, ty_12, ty_21, ty_22, ty_23, ty_24, ty_25, ty_26, ty_31, ty_39, ty_41, ty_42, ty_45, ty_56, ty_57, ty_62, ty_63, ty_64, ty_65, ty_68, ty_81, sg1]
  first
  | refine hK _ ?_
  | refine And.intro (by first | omega | (simp; done) | (simp; omega) | (simp +contextual; done) | (simp_all; done) | (simp_all; omega)) (hK _ ?_)
  clear hK K
  refine WA.cond rfl (fun h => ?_) (fun h => ?_)
  ·
    refine WA.regionK ty_ok hs fun K hK => ?_
    simp only [EvR, EvD, maxLen, byte_lt, byte_lti, byte_lei, UInt8.ofNat_toNat, wrap_byte, u8_nn, u8_lt, u8_le, cndB, beq_true, beq_false, imp_self, and_self, Bool.not_not, Bool.and_self, inR_i64, inR_u8, evL, evD, visH, addE, allH, inL, wrB, keyOK, ownK, ordB, evG, evX, evA, evM, evC, bop, bopI, bopS, uop, pickA, cmpI, isCmp, opnd, gt, lk, putT, stepS, stp, cnd, idx, sub, isA, ldA, zeroA, zOK, isU8, isBy, emptyC, catC, catOK, cpA, cpOK, mkC, mkOK, asL, okL, okc, cN, cE, cAt, bA, toB, byteOK_int, setE, putX, putL, fillA, fillOK, AV.cl, AV.one, Value.oneCell', TK.row, Option.getD_some, Option.getD_none, Option.map_some, Option.map_none, Option.bind_some, Option.bind_none, cvA, cvX, cvL, cv1, isL, List.getElem?_cons_zero, List.getElem?_cons_succ, List.nil_append, List.cons_append, List.append_nil, List.map_cons, List.map_nil, List.length_map, List.length_cons, List.length_nil, List.take_zero, List.drop_zero, List.take_succ_cons, List.drop_succ_cons, List.drop_nil, List.take_nil, List.take_length, List.headD_cons, List.map_replicate, List.length_replicate, List.length_take, List.length_drop, List.length_append, List.length_set, List.all_nil, List.all_cons, List.getD_cons_zero, List.getD_cons_succ, List.set_cons_zero, List.set_cons_succ, List.isEmpty_nil, List.mem_cons, List.not_mem_nil, or_false, false_or, or_true, true_or, forall_eq_or_imp, forall_eq, List.range_succ, List.range_zero, bne_iff_ne, ne_eq, rcv, rcvL, rcvP, adH, lentAds, frA, frL, frP, lkAll, okO, dOK, nFr, RT, RT1, Tr_lit, Tr_by, Tr_agg, Tr_nil, Tr_li, TrC_lie, trE_nil, trE_cons, trA_nil, trA_cons, AV.cl, TrC_by, decide_true, decide_false, Bool.and_true, Bool.true_and, Bool.and_false, Bool.false_and, Bool.or_true, Bool.or_false, Bool.false_or, Bool.true_or, Bool.not_true, Bool.not_false, Bool.false_eq_true, cond_true, cond_false, beq_self_eq_true, true_and, and_true, true_implies, implies_true, false_implies, not_true_eq_false, not_false_eq_true, Nat.reduceAdd, Nat.reduceLT, Nat.reduceLeDiff, Nat.reduceEqDiff, Nat.reduceSub, Nat.reduceMul, Nat.reduceBEq, Nat.reduceBNe, Nat.reducePow, Nat.reduceDiv, Nat.min_self, Nat.min_def, Int.cast_ofNat_Int, Int.reduceLE, Int.reduceLT, Int.reduceToNat, Int.reduceNeg, Int.reduceAdd, Int.reduceSub, Int.reduceEq, reduceIte, reduceCtorEq, if_true, if_false, Int.toNat_natCast, UInt8.reduceOfNat, Nat.zero_add, Nat.add_zero, Nat.sub_zero, List.nodup_nil, List.nodup_cons, Option.mem_def, Option.some.injEq, forall_eq', ty_2, ty_3, ty_4, ty_5, ty_9, ty_12, ty_21, ty_22, ty_23, ty_24, ty_25, ty_26, ty_31, ty_39, ty_41, ty_42, ty_45, ty_56, ty_57, ty_62, ty_63, ty_64, ty_65, ty_68, ty_81, sg1]
    first
    | refine hK _ ?_
    | refine And.intro (by first | omega | (simp; done) | (simp; omega) | (simp +contextual; done) | (simp_all; done) | (simp_all; omega)) (hK _ ?_)
    clear hK K
    have e : rO b = false := by
      unfold rO
      by_cases h5 : b.length = 265
      · simp only [h5, Int.cast_ofNat_Int, bne_self_eq_false, cond_false, bne_iff_ne] at h
        have : ¬ (b.getD 0 0).toNat = 1 := by omega
        simp only [decide_eq_false this, Bool.and_false, Bool.false_and]
      · simp [h5]
    unfold readA rN rR
    rw [e]
    refine WA.retE ty_ok (xs := [.agg [.lit (.int .i64 0), .by_ []], .lit (.bool false)]) (ls' := []) (rv := [.cell 2 57, .tmp 3]) rfl hX (by decide) (fun _ => rfl) (fun _ _ h => h) ?_
    simp only [ExR, Tr_nil, Tr_li, TrC_lie, trE_nil, trE_cons, trA_nil, trA_cons, Int.reduceLT, Int.reduceLE, Int.reduceEq, Int.reduceNeg, List.length_append, List.length_map, List.length_replicate, List.length_set, sbT, sbL, Tr_agg, AV.by_.injEq, AV.lit.injEq, AV.agg.injEq, AV.li.injEq, List.cons.injEq, Value.int.injEq, Value.bool.injEq, List.mem_cons, forall_eq_or_imp, forall_eq, List.cons_ne_nil, eq_self, resA, fzL, fz1, frs, frks, kOf, lnt, mkR, isT, opnd, gt, lk, stp, cnd, ldA, cAt, cN, cE, AV.cl, TK.row, sub, cvX, cvL, cv1, isL, List.getD_cons_zero, List.getD_cons_succ, List.nil_append, List.cons_append, List.length_cons, List.length_nil, List.take_zero, List.drop_zero, List.take_succ_cons, List.drop_succ_cons, List.drop_nil, List.take_nil, List.take_length, Option.getD_some, Option.getD_none, Tr_lit, Tr_by, TrC_by, true_and, and_true, Nat.reduceAdd, Nat.reduceLT, Nat.reduceLeDiff, Nat.reduceEqDiff, reduceIte, reduceCtorEq, if_true, if_false, Bool.false_eq_true, List.nodup_nil, List.nodup_cons, List.not_mem_nil, not_false_eq_true, Nat.zero_add, or_false, false_or, true_or, ty_2, ty_3, ty_4, ty_5, ty_9, ty_12, ty_21, ty_22, ty_23, ty_24, ty_25, ty_26, ty_31, ty_39, ty_41, ty_42, ty_45, ty_56, ty_57, ty_62, ty_63, ty_64, ty_65, ty_68, ty_81, sbT]
  · refine WA.skipT ?_
    have h1 : b.length = 265 ∧ (b.getD 0 0).toNat = 1 := by
      by_cases h5 : b.length = 265
      · simp only [h5, Int.cast_ofNat_Int, bne_self_eq_false, cond_false, bne_eq_false_iff_eq] at h
        exact ⟨h5, by omega⟩
      · have : ((b.length : Int) != 265) = true := by rw [bne_iff_ne]; omega
        rw [this] at h
        cases h
    obtain ⟨h5, h1⟩ := h1
    clear h
    refine WA.regionK ty_ok hs fun K hK => ?_
    simp only [EvR, EvD, maxLen, byte_lt, byte_lti, byte_lei, UInt8.ofNat_toNat, wrap_byte, u8_nn, u8_lt, u8_le, cndB, beq_true, beq_false, imp_self, and_self, Bool.not_not, Bool.and_self, inR_i64, inR_u8, evL, evD, visH, addE, allH, inL, wrB, keyOK, ownK, ordB, evG, evX, evA, evM, evC, bop, bopI, bopS, uop, pickA, cmpI, isCmp, opnd, gt, lk, putT, stepS, stp, cnd, idx, sub, isA, ldA, zeroA, zOK, isU8, isBy, emptyC, catC, catOK, cpA, cpOK, mkC, mkOK, asL, okL, okc, cN, cE, cAt, bA, toB, byteOK_int, setE, putX, putL, fillA, fillOK, AV.cl, AV.one, Value.oneCell', TK.row, Option.getD_some, Option.getD_none, Option.map_some, Option.map_none, Option.bind_some, Option.bind_none, cvA, cvX, cvL, cv1, isL, List.getElem?_cons_zero, List.getElem?_cons_succ, List.nil_append, List.cons_append, List.append_nil, List.map_cons, List.map_nil, List.length_map, List.length_cons, List.length_nil, List.take_zero, List.drop_zero, List.take_succ_cons, List.drop_succ_cons, List.drop_nil, List.take_nil, List.take_length, List.headD_cons, List.map_replicate, List.length_replicate, List.length_take, List.length_drop, List.length_append, List.length_set, List.all_nil, List.all_cons, List.getD_cons_zero, List.getD_cons_succ, List.set_cons_zero, List.set_cons_succ, List.isEmpty_nil, List.mem_cons, List.not_mem_nil, or_false, false_or, or_true, true_or, forall_eq_or_imp, forall_eq, List.range_succ, List.range_zero, bne_iff_ne, ne_eq, rcv, rcvL, rcvP, adH, lentAds, frA, frL, frP, lkAll, okO, dOK, nFr, RT, RT1, Tr_lit, Tr_by, Tr_agg, Tr_nil, Tr_li, TrC_lie, trE_nil, trE_cons, trA_nil, trA_cons, AV.cl, TrC_by, decide_true, decide_false, Bool.and_true, Bool.true_and, Bool.and_false, Bool.false_and, Bool.or_true, Bool.or_false, Bool.false_or, Bool.true_or, Bool.not_true, Bool.not_false, Bool.false_eq_true, cond_true, cond_false, beq_self_eq_true, true_and, and_true, true_implies, implies_true, false_implies, not_true_eq_false, not_false_eq_true, Nat.reduceAdd, Nat.reduceLT, Nat.reduceLeDiff, Nat.reduceEqDiff, Nat.reduceSub, Nat.reduceMul, Nat.reduceBEq, Nat.reduceBNe, Nat.reducePow, Nat.reduceDiv, Nat.min_self, Nat.min_def, Int.cast_ofNat_Int, Int.reduceLE, Int.reduceLT, Int.reduceToNat, Int.reduceNeg, Int.reduceAdd, Int.reduceSub, Int.reduceEq, reduceIte, reduceCtorEq, if_true, if_false, Int.toNat_natCast, UInt8.reduceOfNat, Nat.zero_add, Nat.add_zero, Nat.sub_zero, List.nodup_nil, List.nodup_cons, Option.mem_def, Option.some.injEq, forall_eq', ty_2, ty_3, ty_4, ty_5, ty_9, ty_12, ty_21, ty_22, ty_23, ty_24, ty_25, ty_26, ty_31, ty_39, ty_41, ty_42, ty_45, ty_56, ty_57, ty_62, ty_63, ty_64, ty_65, ty_68, ty_81, sg1, h5]
    first
    | refine hK _ ?_
    | refine And.intro (by first | omega | (simp; done) | (simp; omega) | (simp +contextual; done) | (simp_all; done) | (simp_all; omega)) (hK _ ?_)
    clear hK K
    refine WA.regionK ty_ok hs fun K hK => ?_
    simp only [EvR, EvD, maxLen, byte_lt, byte_lti, byte_lei, UInt8.ofNat_toNat, wrap_byte, u8_nn, u8_lt, u8_le, cndB, beq_true, beq_false, imp_self, and_self, Bool.not_not, Bool.and_self, inR_i64, inR_u8, evL, evD, visH, addE, allH, inL, wrB, keyOK, ownK, ordB, evG, evX, evA, evM, evC, bop, bopI, bopS, uop, pickA, cmpI, isCmp, opnd, gt, lk, putT, stepS, stp, cnd, idx, sub, isA, ldA, zeroA, zOK, isU8, isBy, emptyC, catC, catOK, cpA, cpOK, mkC, mkOK, asL, okL, okc, cN, cE, cAt, bA, toB, byteOK_int, setE, putX, putL, fillA, fillOK, AV.cl, AV.one, Value.oneCell', TK.row, Option.getD_some, Option.getD_none, Option.map_some, Option.map_none, Option.bind_some, Option.bind_none, cvA, cvX, cvL, cv1, isL, List.getElem?_cons_zero, List.getElem?_cons_succ, List.nil_append, List.cons_append, List.append_nil, List.map_cons, List.map_nil, List.length_map, List.length_cons, List.length_nil, List.take_zero, List.drop_zero, List.take_succ_cons, List.drop_succ_cons, List.drop_nil, List.take_nil, List.take_length, List.headD_cons, List.map_replicate, List.length_replicate, List.length_take, List.length_drop, List.length_append, List.length_set, List.all_nil, List.all_cons, List.getD_cons_zero, List.getD_cons_succ, List.set_cons_zero, List.set_cons_succ, List.isEmpty_nil, List.mem_cons, List.not_mem_nil, or_false, false_or, or_true, true_or, forall_eq_or_imp, forall_eq, List.range_succ, List.range_zero, bne_iff_ne, ne_eq, rcv, rcvL, rcvP, adH, lentAds, frA, frL, frP, lkAll, okO, dOK, nFr, RT, RT1, Tr_lit, Tr_by, Tr_agg, Tr_nil, Tr_li, TrC_lie, trE_nil, trE_cons, trA_nil, trA_cons, AV.cl, TrC_by, decide_true, decide_false, Bool.and_true, Bool.true_and, Bool.and_false, Bool.false_and, Bool.or_true, Bool.or_false, Bool.false_or, Bool.true_or, Bool.not_true, Bool.not_false, Bool.false_eq_true, cond_true, cond_false, beq_self_eq_true, true_and, and_true, true_implies, implies_true, false_implies, not_true_eq_false, not_false_eq_true, Nat.reduceAdd, Nat.reduceLT, Nat.reduceLeDiff, Nat.reduceEqDiff, Nat.reduceSub, Nat.reduceMul, Nat.reduceBEq, Nat.reduceBNe, Nat.reducePow, Nat.reduceDiv, Nat.min_self, Nat.min_def, Int.cast_ofNat_Int, Int.reduceLE, Int.reduceLT, Int.reduceToNat, Int.reduceNeg, Int.reduceAdd, Int.reduceSub, Int.reduceEq, reduceIte, reduceCtorEq, if_true, if_false, Int.toNat_natCast, UInt8.reduceOfNat, Nat.zero_add, Nat.add_zero, Nat.sub_zero, List.nodup_nil, List.nodup_cons, Option.mem_def, Option.some.injEq, forall_eq', ty_2, ty_3, ty_4, ty_5, ty_9, ty_12, ty_21, ty_22, ty_23, ty_24, ty_25, ty_26, ty_31, ty_39, ty_41, ty_42, ty_45, ty_56, ty_57, ty_62, ty_63, ty_64, ty_65, ty_68, ty_81, sg1, h5]
    first
    | refine hK _ ?_
    | refine And.intro (by first | omega | (simp; done) | (simp; omega) | (simp +contextual; done) | (simp_all; done) | (simp_all; omega)) (hK _ ?_)
    clear hK K
    refine WA.seq ?_
    refine WA.regionK ty_ok hs fun K hK => ?_
    simp only [EvR, EvD, maxLen, byte_lt, byte_lti, byte_lei, UInt8.ofNat_toNat, wrap_byte, u8_nn, u8_lt, u8_le, cndB, beq_true, beq_false, imp_self, and_self, Bool.not_not, Bool.and_self, inR_i64, inR_u8, evL, evD, visH, addE, allH, inL, wrB, keyOK, ownK, ordB, evG, evX, evA, evM, evC, bop, bopI, bopS, uop, pickA, cmpI, isCmp, opnd, gt, lk, putT, stepS, stp, cnd, idx, sub, isA, ldA, zeroA, zOK, isU8, isBy, emptyC, catC, catOK, cpA, cpOK, mkC, mkOK, asL, okL, okc, cN, cE, cAt, bA, toB, byteOK_int, setE, putX, putL, fillA, fillOK, AV.cl, AV.one, Value.oneCell', TK.row, Option.getD_some, Option.getD_none, Option.map_some, Option.map_none, Option.bind_some, Option.bind_none, cvA, cvX, cvL, cv1, isL, List.getElem?_cons_zero, List.getElem?_cons_succ, List.nil_append, List.cons_append, List.append_nil, List.map_cons, List.map_nil, List.length_map, List.length_cons, List.length_nil, List.take_zero, List.drop_zero, List.take_succ_cons, List.drop_succ_cons, List.drop_nil, List.take_nil, List.take_length, List.headD_cons, List.map_replicate, List.length_replicate, List.length_take, List.length_drop, List.length_append, List.length_set, List.all_nil, List.all_cons, List.getD_cons_zero, List.getD_cons_succ, List.set_cons_zero, List.set_cons_succ, List.isEmpty_nil, List.mem_cons, List.not_mem_nil, or_false, false_or, or_true, true_or, forall_eq_or_imp, forall_eq, List.range_succ, List.range_zero, bne_iff_ne, ne_eq, rcv, rcvL, rcvP, adH, lentAds, frA, frL, frP, lkAll, okO, dOK, nFr, RT, RT1, Tr_lit, Tr_by, Tr_agg, Tr_nil, Tr_li, TrC_lie, trE_nil, trE_cons, trA_nil, trA_cons, AV.cl, TrC_by, decide_true, decide_false, Bool.and_true, Bool.true_and, Bool.and_false, Bool.false_and, Bool.or_true, Bool.or_false, Bool.false_or, Bool.true_or, Bool.not_true, Bool.not_false, Bool.false_eq_true, cond_true, cond_false, beq_self_eq_true, true_and, and_true, true_implies, implies_true, false_implies, not_true_eq_false, not_false_eq_true, Nat.reduceAdd, Nat.reduceLT, Nat.reduceLeDiff, Nat.reduceEqDiff, Nat.reduceSub, Nat.reduceMul, Nat.reduceBEq, Nat.reduceBNe, Nat.reducePow, Nat.reduceDiv, Nat.min_self, Nat.min_def, Int.cast_ofNat_Int, Int.reduceLE, Int.reduceLT, Int.reduceToNat, Int.reduceNeg, Int.reduceAdd, Int.reduceSub, Int.reduceEq, reduceIte, reduceCtorEq, if_true, if_false, Int.toNat_natCast, UInt8.reduceOfNat, Nat.zero_add, Nat.add_zero, Nat.sub_zero, List.nodup_nil, List.nodup_cons, Option.mem_def, Option.some.injEq, forall_eq', ty_2, ty_3, ty_4, ty_5, ty_9, ty_12, ty_21, ty_22, ty_23, ty_24, ty_25, ty_26, ty_31, ty_39, ty_41, ty_42, ty_45, ty_56, ty_57, ty_62, ty_63, ty_64, ty_65, ty_68, ty_81, sg1, h5]
    first
    | refine hK _ ?_
    | refine And.intro (by first | omega | (simp; done) | (simp; omega) | (simp +contextual; done) | (simp_all; done) | (simp_all; omega)) (hK _ ?_)
    clear hK K
    refine WA.cond rfl (fun h => ?_) (fun h => ?_)
    ·
      refine WA.regionK ty_ok hs fun K hK => ?_
      simp only [EvR, EvD, maxLen, byte_lt, byte_lti, byte_lei, UInt8.ofNat_toNat, wrap_byte, u8_nn, u8_lt, u8_le, cndB, beq_true, beq_false, imp_self, and_self, Bool.not_not, Bool.and_self, inR_i64, inR_u8, evL, evD, visH, addE, allH, inL, wrB, keyOK, ownK, ordB, evG, evX, evA, evM, evC, bop, bopI, bopS, uop, pickA, cmpI, isCmp, opnd, gt, lk, putT, stepS, stp, cnd, idx, sub, isA, ldA, zeroA, zOK, isU8, isBy, emptyC, catC, catOK, cpA, cpOK, mkC, mkOK, asL, okL, okc, cN, cE, cAt, bA, toB, byteOK_int, setE, putX, putL, fillA, fillOK, AV.cl, AV.one, Value.oneCell', TK.row, Option.getD_some, Option.getD_none, Option.map_some, Option.map_none, Option.bind_some, Option.bind_none, cvA, cvX, cvL, cv1, isL, List.getElem?_cons_zero, List.getElem?_cons_succ, List.nil_append, List.cons_append, List.append_nil, List.map_cons, List.map_nil, List.length_map, List.length_cons, List.length_nil, List.take_zero, List.drop_zero, List.take_succ_cons, List.drop_succ_cons, List.drop_nil, List.take_nil, List.take_length, List.headD_cons, List.map_replicate, List.length_replicate, List.length_take, List.length_drop, List.length_append, List.length_set, List.all_nil, List.all_cons, List.getD_cons_zero, List.getD_cons_succ, List.set_cons_zero, List.set_cons_succ, List.isEmpty_nil, List.mem_cons, List.not_mem_nil, or_false, false_or, or_true, true_or, forall_eq_or_imp, forall_eq, List.range_succ, List.range_zero, bne_iff_ne, ne_eq, rcv, rcvL, rcvP, adH, lentAds, frA, frL, frP, lkAll, okO, dOK, nFr, RT, RT1, Tr_lit, Tr_by, Tr_agg, Tr_nil, Tr_li, TrC_lie, trE_nil, trE_cons, trA_nil, trA_cons, AV.cl, TrC_by, decide_true, decide_false, Bool.and_true, Bool.true_and, Bool.and_false, Bool.false_and, Bool.or_true, Bool.or_false, Bool.false_or, Bool.true_or, Bool.not_true, Bool.not_false, Bool.false_eq_true, cond_true, cond_false, beq_self_eq_true, true_and, and_true, true_implies, implies_true, false_implies, not_true_eq_false, not_false_eq_true, Nat.reduceAdd, Nat.reduceLT, Nat.reduceLeDiff, Nat.reduceEqDiff, Nat.reduceSub, Nat.reduceMul, Nat.reduceBEq, Nat.reduceBNe, Nat.reducePow, Nat.reduceDiv, Nat.min_self, Nat.min_def, Int.cast_ofNat_Int, Int.reduceLE, Int.reduceLT, Int.reduceToNat, Int.reduceNeg, Int.reduceAdd, Int.reduceSub, Int.reduceEq, reduceIte, reduceCtorEq, if_true, if_false, Int.toNat_natCast, UInt8.reduceOfNat, Nat.zero_add, Nat.add_zero, Nat.sub_zero, List.nodup_nil, List.nodup_cons, Option.mem_def, Option.some.injEq, forall_eq', ty_2, ty_3, ty_4, ty_5, ty_9, ty_12, ty_21, ty_22, ty_23, ty_24, ty_25, ty_26, ty_31, ty_39, ty_41, ty_42, ty_45, ty_56, ty_57, ty_62, ty_63, ty_64, ty_65, ty_68, ty_81, sg1, h5]
      first
      | refine hK _ ?_
      | refine And.intro (by first | omega | (simp; done) | (simp; omega) | (simp +contextual; done) | (simp_all; done) | (simp_all; omega)) (hK _ ?_)
      clear hK K
      have e : rO b = false := by
        unfold rO
        have : ¬ numV ((b.take 9).drop 7) ≤ 256 := by simpa using h
        simp [this]
      unfold readA rN rR
      rw [e]
      refine WA.retE ty_ok (xs := [.agg [.lit (.int .i64 0), .by_ []], .lit (.bool false)]) (ls' := []) (rv := [.cell 2 57, .tmp 3]) rfl hX (by decide) (fun _ => rfl) (fun _ _ h => h) ?_
      simp only [ExR, Tr_nil, Tr_li, TrC_lie, trE_nil, trE_cons, trA_nil, trA_cons, Int.reduceLT, Int.reduceLE, Int.reduceEq, Int.reduceNeg, List.length_append, List.length_map, List.length_replicate, List.length_set, sbT, sbL, Tr_agg, AV.by_.injEq, AV.lit.injEq, AV.agg.injEq, AV.li.injEq, List.cons.injEq, Value.int.injEq, Value.bool.injEq, List.mem_cons, forall_eq_or_imp, forall_eq, List.cons_ne_nil, eq_self, resA, fzL, fz1, frs, frks, kOf, lnt, mkR, isT, opnd, gt, lk, stp, cnd, ldA, cAt, cN, cE, AV.cl, TK.row, sub, cvX, cvL, cv1, isL, List.getD_cons_zero, List.getD_cons_succ, List.nil_append, List.cons_append, List.length_cons, List.length_nil, List.take_zero, List.drop_zero, List.take_succ_cons, List.drop_succ_cons, List.drop_nil, List.take_nil, List.take_length, Option.getD_some, Option.getD_none, Tr_lit, Tr_by, TrC_by, true_and, and_true, Nat.reduceAdd, Nat.reduceLT, Nat.reduceLeDiff, Nat.reduceEqDiff, reduceIte, reduceCtorEq, if_true, if_false, Bool.false_eq_true, List.nodup_nil, List.nodup_cons, List.not_mem_nil, not_false_eq_true, Nat.zero_add, or_false, false_or, true_or, ty_2, ty_3, ty_4, ty_5, ty_9, ty_12, ty_21, ty_22, ty_23, ty_24, ty_25, ty_26, ty_31, ty_39, ty_41, ty_42, ty_45, ty_56, ty_57, ty_62, ty_63, ty_64, ty_65, ty_68, ty_81, sbT]
    · refine WA.skipT ?_
      have h2 : numV ((b.take 9).drop 7) ≤ 256 := by simpa using h
      have h3 := numV_nn ((b.take 9).drop 7)
      have e : rO b = true := by simp only [rO, decide_eq_true h5, decide_eq_true h1, decide_eq_true h2, Bool.and_true]
      clear h
      have h4 : ((9 + numV ((b.take 9).drop 7)).toNat ≤ 265) = True := eq_true (by omega)
      refine WA.regionK ty_ok hs fun K hK => ?_
      simp only [EvR, EvD, maxLen, byte_lt, byte_lti, byte_lei, UInt8.ofNat_toNat, wrap_byte, u8_nn, u8_lt, u8_le, cndB, beq_true, beq_false, imp_self, and_self, Bool.not_not, Bool.and_self, inR_i64, inR_u8, evL, evD, visH, addE, allH, inL, wrB, keyOK, ownK, ordB, evG, evX, evA, evM, evC, bop, bopI, bopS, uop, pickA, cmpI, isCmp, opnd, gt, lk, putT, stepS, stp, cnd, idx, sub, isA, ldA, zeroA, zOK, isU8, isBy, emptyC, catC, catOK, cpA, cpOK, mkC, mkOK, asL, okL, okc, cN, cE, cAt, bA, toB, byteOK_int, setE, putX, putL, fillA, fillOK, AV.cl, AV.one, Value.oneCell', TK.row, Option.getD_some, Option.getD_none, Option.map_some, Option.map_none, Option.bind_some, Option.bind_none, cvA, cvX, cvL, cv1, isL, List.getElem?_cons_zero, List.getElem?_cons_succ, List.nil_append, List.cons_append, List.append_nil, List.map_cons, List.map_nil, List.length_map, List.length_cons, List.length_nil, List.take_zero, List.drop_zero, List.take_succ_cons, List.drop_succ_cons, List.drop_nil, List.take_nil, List.take_length, List.headD_cons, List.map_replicate, List.length_replicate, List.length_take, List.length_drop, List.length_append, List.length_set, List.all_nil, List.all_cons, List.getD_cons_zero, List.getD_cons_succ, List.set_cons_zero, List.set_cons_succ, List.isEmpty_nil, List.mem_cons, List.not_mem_nil, or_false, false_or, or_true, true_or, forall_eq_or_imp, forall_eq, List.range_succ, List.range_zero, bne_iff_ne, ne_eq, rcv, rcvL, rcvP, adH, lentAds, frA, frL, frP, lkAll, okO, dOK, nFr, RT, RT1, Tr_lit, Tr_by, Tr_agg, Tr_nil, Tr_li, TrC_lie, trE_nil, trE_cons, trA_nil, trA_cons, AV.cl, TrC_by, decide_true, decide_false, Bool.and_true, Bool.true_and, Bool.and_false, Bool.false_and, Bool.or_true, Bool.or_false, Bool.false_or, Bool.true_or, Bool.not_true, Bool.not_false, Bool.false_eq_true, cond_true, cond_false, beq_self_eq_true, true_and, and_true, true_implies, implies_true, false_implies, not_true_eq_false, not_false_eq_true, Nat.reduceAdd, Nat.reduceLT, Nat.reduceLeDiff, Nat.reduceEqDiff, Nat.reduceSub, Nat.reduceMul, Nat.reduceBEq, Nat.reduceBNe, Nat.reducePow, Nat.reduceDiv, Nat.min_self, Nat.min_def, Int.cast_ofNat_Int, Int.reduceLE, Int.reduceLT, Int.reduceToNat, Int.reduceNeg, Int.reduceAdd, Int.reduceSub, Int.reduceEq, reduceIte, reduceCtorEq, if_true, if_false, Int.toNat_natCast, UInt8.reduceOfNat, Nat.zero_add, Nat.add_zero, Nat.sub_zero, List.nodup_nil, List.nodup_cons, Option.mem_def, Option.some.injEq, forall_eq', ty_2, ty_3, ty_4, ty_5, ty_9, ty_12, ty_21, ty_22, ty_23, ty_24, ty_25, ty_26, ty_31, ty_39, ty_41, ty_42, ty_45, ty_56, ty_57, ty_62, ty_63, ty_64, ty_65, ty_68, ty_81, sg1, h5, h4]
      refine And.intro (by omega) (hK _ ?_)
      clear hK K
      unfold readA rN rR
      rw [e]
      refine WA.retE ty_ok (xs := [.agg [.lit (.int .i64 (numV ((b.take 7).drop 1))), .by_ ((b.take (9 + numV ((b.take 9).drop 7)).toNat).drop 9)], .lit (.bool true)]) (ls' := []) (rv := [.cell 2 57, .tmp 3]) rfl hX (by decide) (fun _ => rfl) (fun _ _ h => h) ?_
      simp only [ExR, Tr_nil, Tr_li, TrC_lie, trE_nil, trE_cons, trA_nil, trA_cons, Int.reduceLT, Int.reduceLE, Int.reduceEq, Int.reduceNeg, List.length_append, List.length_map, List.length_replicate, List.length_set, sbT, sbL, Tr_agg, AV.by_.injEq, AV.lit.injEq, AV.agg.injEq, AV.li.injEq, List.cons.injEq, Value.int.injEq, Value.bool.injEq, List.mem_cons, forall_eq_or_imp, forall_eq, List.cons_ne_nil, eq_self, resA, fzL, fz1, frs, frks, kOf, lnt, mkR, isT, opnd, gt, lk, stp, cnd, ldA, cAt, cN, cE, AV.cl, TK.row, sub, cvX, cvL, cv1, isL, List.getD_cons_zero, List.getD_cons_succ, List.nil_append, List.cons_append, List.length_cons, List.length_nil, List.take_zero, List.drop_zero, List.take_succ_cons, List.drop_succ_cons, List.drop_nil, List.take_nil, List.take_length, Option.getD_some, Option.getD_none, Tr_lit, Tr_by, TrC_by, true_and, and_true, Nat.reduceAdd, Nat.reduceLT, Nat.reduceLeDiff, Nat.reduceEqDiff, reduceIte, reduceCtorEq, if_true, if_false, Bool.false_eq_true, List.nodup_nil, List.nodup_cons, List.not_mem_nil, not_false_eq_true, Nat.zero_add, or_false, false_or, true_or, ty_2, ty_3, ty_4, ty_5, ty_9, ty_12, ty_21, ty_22, ty_23, ty_24, ty_25, ty_26, ty_31, ty_39, ty_41, ty_42, ty_45, ty_56, ty_57, ty_62, ty_63, ty_64, ty_65, ty_68, ty_81, h5, h4]
      have hl : (List.drop 9 (List.take (9 + numV (List.drop 7 (List.take 9 b))).toNat b)).length = (9 + numV (List.drop 7 (List.take 9 b))).toNat - 9 := by
        rw [List.length_drop, List.length_take]
        omega
      exact ⟨by omega, List.take_of_length_le (by omega)⟩
end Go.Proofs.Ytjhiagelgleomaa
