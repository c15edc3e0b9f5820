import Derived.Test.YtgmmdijmlnehlaaDoorChN
namespace Go.Proofs.YtgmmdijmlnehlaaDoor
open Go.RowKit Go.TravelBase Go.TravelAbs
set_option linter.unusedVariables false
set_option linter.unusedSimpArgs false



















/-! ### Decode, of the document -/
theorem pt_read {q : Pt} (hq : pointE q = 0) {x y : List UInt8} (h : x = encPt q ++ y) : (x.getD 0 0).toNat = q.h.length ∧ 13 + q.h.length ≤ x.length ∧ (x.drop 1).take q.h.length = q.h ∧ ((numS ((x.drop (1 + q.h.length)).take 4) : Nat) : Int) = q.key ∧ ((numS (((x.drop (1 + q.h.length)).take 6).drop 4) : Nat) : Int) = q.rt ∧ ((numS (((x.drop (1 + q.h.length)).take 9).drop 6) : Nat) : Int) = q.fr ∧ ((numS (((x.drop (1 + q.h.length)).take 12).drop 9) : Nat) : Int) = q.til ∧ x.drop (13 + q.h.length) = y := by
  obtain ⟨p1, p2, p3, p4, p5⟩ := point_ok hq
  obtain ⟨k1, _, k2, _⟩ := key_back p2
  have r := elt_rng p2
  obtain ⟨z, hz⟩ : ∃ z, encL q.key ++ (le2 q.rt ++ (le3 q.fr ++ (le3 q.til ++ y))) = z := ⟨_, rfl⟩
  have e : x = byt (q.h.length : Nat) :: (q.h ++ z) := by
    rw [h, encPt, ← hz]
    simp
  have e2 : x.drop (1 + q.h.length) = z := by
    rw [e, Nat.add_comm, List.drop_succ_cons, List.drop_left]
  have e3 : x.drop (13 + q.h.length) = y := by
    rw [show 13 + q.h.length = (1 + q.h.length) + 12 by omega, ← List.drop_drop, e2, ← hz, ← List.append_assoc, ← List.append_assoc, ← List.append_assoc]
    exact List.drop_left' (by simp [k1, le2, le3])
  refine ⟨?_, ?_, ?_, ?_, ?_, ?_, ?_, e3⟩
  · rw [e]
    exact byt_one (by omega)
  · rw [h, List.length_append, encPt_len hq]
    omega
  · rw [e, List.drop_succ_cons, List.drop_zero, List.take_left]
  · rw [e2, ← hz, List.take_left' k1, k2]
    omega
  · rw [e2, ← hz, ← List.append_assoc, List.take_left' (by simp [k1, le2]), List.drop_left' k1, (numV_2 p3).2]
    omega
  · rw [e2, ← hz, ← List.append_assoc, ← List.append_assoc, List.take_left' (by simp [k1, le2, le3]), List.drop_left' (by simp [k1, le2]), (numV_3 p4).2]
    omega
  · rw [e2, ← hz, ← List.append_assoc, ← List.append_assoc, ← List.append_assoc, List.take_left' (by simp [k1, le2, le3]), List.drop_left' (by simp [k1, le2, le3]), (numV_3 p5).2]
    omega
def rqPt (d : List UInt8) (p : Nat) : Pt :=
  let n := (d.getD p 0).toNat
  let x := d.drop (p + 1 + n)
  ⟨(d.drop (p + 1)).take n, (numS (x.take 4) : Nat), (numS ((x.take 6).drop 4) : Nat), (numS ((x.take 9).drop 6) : Nat), (numS ((x.take 12).drop 9) : Nat)⟩
theorem fitq {d : List UInt8} {i p : Nat} {l : List Pt} {now n : Int} (h : FitR d i p false l now n) (hi : (i : Int) < n) : FitR d (i + 1) (p + 1 + (d.getD p 0).toNat + 12) false (l ++ [rqPt d p]) now n ∧ ∀ s, okS d s → p + 1 + (d.getD p 0).toNat + 12 ≤ d.length := by
  have key : ∀ s, okS d s → p + 1 + (d.getD p 0).toNat + 12 ≤ d.length ∧ d.drop (p + 1 + (d.getD p 0).toNat + 12) = remS s (i + 1) ∧ (∃ hi : i < s.pts.length, rqPt d p = s.pts[i]) := by
    intro s hs
    obtain ⟨_, hp, hd, hl, hnow, hn⟩ := h s hs
    have hi2 : i < s.pts.length := by omega
    obtain ⟨a1, a2, a3⟩ := valid_ok hs.1
    have hk := a2 _ (List.getElem_mem hi2)
    rw [rem_step hs hi2] at hd
    obtain ⟨e1, e2, e3, e4, e5, e6, e7, e8⟩ := pt_read hk hd
    have g : d.getD p 0 = (d.drop p).getD 0 0 := by simp [List.getD_eq_getElem?_getD]
    rw [← g] at e1
    rw [List.length_drop] at e2
    simp only [List.drop_drop] at e3 e4 e5 e6 e7 e8
    refine ⟨by omega, ?_, hi2, ?_⟩
    · rw [e1, ← e8]
      congr 1
      omega
    · unfold rqPt
      rw [show p + (1 + s.pts[i].h.length) = p + 1 + s.pts[i].h.length by omega] at e4 e5 e6 e7
      simp only [e1, e3, e4, e5, e6, e7]
  refine ⟨fun s hs => ?_, fun s hs => (key s hs).1⟩
  obtain ⟨k1, k2, hi2, k4⟩ := key s hs
  obtain ⟨_, _, _, hl, hnow, hn⟩ := h s hs
  refine ⟨rfl, k1, k2, ?_, hnow, hn⟩
  rw [k4, hl, List.take_add_one, List.getElem?_eq_getElem hi2]
  rfl
theorem fitq_0 (d : List UInt8) : FitR d 0 4 false [] (numS (d.take 3) : Nat) (d.getD 3 0).toNat := by
  intro s hs
  have e := enc_eq hs
  obtain ⟨a1, a2, a3⟩ := valid_ok hs.1
  have l3 : (le3 s.now).length = 3 := rfl
  have h1 : d.take 3 = le3 s.now := by rw [e]; exact List.take_left' l3
  have h2 : d.getD 3 0 = byt (s.pts.length : Nat) := by rw [e]; rfl
  have h3 : d.drop 4 = remS s 0 := by rw [e]; rfl
  have h4 : 4 ≤ d.length := by rw [e]; simp [le3]
  refine ⟨rfl, h4, h3, rfl, ?_, ?_⟩
  · rw [h1, (numV_3 a3).2]
    omega
  · rw [h2, byt_one (by omega)]
theorem nm_nil : NmOK [] := fun p hp => by cases hp
theorem nm_snoc {l : List Pt} {p : Pt} (h : NmOK l) (h2 : p.h.length ≤ 9223372036854775807) : NmOK (l ++ [p]) := fun q hq => by
  rcases List.mem_append.1 hq with hq | hq
  · exact h q hq
  · rw [List.mem_singleton.1 hq]
    exact h2
def sgX : Sg := fun f args ls =>
  match f, args, ls with
  | 39, [.by_ bs], [] => some (.lit (.int .i64 (numS bs : Nat)), [], bs.length ≤ 6)
  | 14, [.agg [.li es xs, .lit (.int .i64 now)]], [] => some (.tup [.by_ (encS ⟨xs.map unT, now⟩), .lit (.int .i64 (validE ⟨xs.map unT, now⟩))], [], es = 5 ∧ xs = (xs.map unT).map ptA ∧ NmOK (xs.map unT))
  | _, _, _ => none
theorem sgX_ok : SgOK Tryd.prog sgX := by
  intro f args ls r ls' vc h hvc
  unfold sgX at h
  split at h <;> first | (simp only [Option.some.injEq, Prod.mk.injEq] at h; obtain ⟨rfl, rfl, rfl⟩ := h) | cases h
  · exact ⟨(fnOK Tryd.func39 (by decide) rfl), rnum_s _ hvc⟩
  · obtain ⟨rfl, h2, h3⟩ := hvc
    refine ⟨(fnOK Tryd.func14 (by decide) rfl), ?_⟩
    rename_i xs now
    have := rencode_s ⟨xs.map unT, now⟩ h3
    unfold stoA at this
    rw [← h2] at this
    exact this
theorem rdecode_s (d : List UInt8) (hd : d.length ≤ 1000) : FnS Tryd.prog 16 [.by_ d] [] (.tup [stoA (dcV d), .lit (.int .i64 (dcE d))]) [] := by
  have hs := sgX_ok
  have hf0 := fitq_0 d
  unfold stoA
  refine FnS.of Tryd.func16 rfl (N := 109) rfl (by simp) (by simp) fun X hX => ?_
  simp only [tmArgs, lentH, Nat.reduceAdd]
  refine WA.regionK ty_ok hs fun K hK => ?_
  simp only [go_sem, Nat.reduceAdd, Nat.reduceLT, Nat.reduceLeDiff, Nat.reduceEqDiff, Nat.reduceSub, Nat.reduceMul, Nat.reduceBEq, Nat.reduceBNe, Nat.reducePow, Nat.reduceDiv, Int.reduceLE, Int.reduceLT, Int.reduceToNat, Int.reduceNeg, Int.reduceAdd, Int.reduceSub, Int.reduceEq, reduceIte, reduceCtorEq, UInt8.reduceOfNat, true_and]
  repeat refine And.intro (by first | omega | assumption | (simp; done) | (simp; omega) | (simp +contextual; done) | (simp_all; done) | (simp_all; omega)) ?_
  refine hK _ ?_
  clear hK K
  refine WA.seq ?_
  refine WA.regionK ty_ok hs fun K hK => ?_
  simp only [go_sem, Nat.reduceAdd, Nat.reduceLT, Nat.reduceLeDiff, Nat.reduceEqDiff, Nat.reduceSub, Nat.reduceMul, Nat.reduceBEq, Nat.reduceBNe, Nat.reducePow, Nat.reduceDiv, Int.reduceLE, Int.reduceLT, Int.reduceToNat, Int.reduceNeg, Int.reduceAdd, Int.reduceSub, Int.reduceEq, reduceIte, reduceCtorEq, UInt8.reduceOfNat, true_and]
  repeat refine And.intro (by first | omega | assumption | (simp; done) | (simp; omega) | (simp +contextual; done) | (simp_all; done) | (simp_all; omega)) ?_
  refine hK _ ?_
  clear hK K
  refine WA.cond rfl (fun h => ?_) (fun h => ?_)
  ·
    have h : d.length < 4 := by first | (simp only [Bool.and_eq_true, Bool.or_eq_true, Bool.not_eq_true', decide_eq_true_eq, decide_eq_false_iff_not, beq_iff_eq, bne_iff_ne, ne_eq, Bool.not_eq_eq_eq_not, Bool.not_true, Bool.not_false, beq_eq_false_iff_ne, bne_eq_false_iff_eq, Bool.and_eq_false_imp, Bool.or_eq_false_iff, Bool.cond_false_right, Bool.cond_true_left, Bool.cond_false_left, Bool.cond_true_right, gt_iff_lt, ge_iff_le, true_and] at h; first | exact h | omega) | omega | simpa using h
    have hno : ∀ s, ¬ okS d s := fun s hs => by
      have := enc_eq hs
      have := congrArg List.length this
      simp [le3] at this
      omega
    rw [(dc_no hno).1, (dc_no hno).2]
    refine WA.regionK ty_ok hs fun K hK => ?_
    simp only [go_sem, Nat.reduceAdd, Nat.reduceLT, Nat.reduceLeDiff, Nat.reduceEqDiff, Nat.reduceSub, Nat.reduceMul, Nat.reduceBEq, Nat.reduceBNe, Nat.reducePow, Nat.reduceDiv, Int.reduceLE, Int.reduceLT, Int.reduceToNat, Int.reduceNeg, Int.reduceAdd, Int.reduceSub, Int.reduceEq, reduceIte, reduceCtorEq, UInt8.reduceOfNat, true_and]
    repeat refine And.intro (by first | omega | assumption | (simp; done) | (simp; omega) | (simp +contextual; done) | (simp_all; done) | (simp_all; omega)) ?_
    refine hK _ ?_
    clear hK K
    refine WA.retE ty_ok (xs := [.agg [.li 5 [], .lit (.int .i64 0)], .lit (.int .i64 1)]) (ls' := []) (rv := [.cell 2 24, .tmp 3]) rfl hX (by decide) (fun _ => rfl) (fun _ _ h => h) ?_
    simp only [go_sem, Nat.reduceAdd, Nat.reduceLT, Nat.reduceLeDiff, Nat.reduceEqDiff, Nat.reduceSub, Nat.reduceMul, Nat.reduceBEq, Nat.reduceBNe, Nat.reducePow, Nat.reduceDiv, Int.reduceLE, Int.reduceLT, Int.reduceToNat, Int.reduceNeg, Int.reduceAdd, Int.reduceSub, Int.reduceEq, reduceIte, reduceCtorEq, UInt8.reduceOfNat, sbT]
    all_goals (first | done | exact Nat.le_refl _ | (simp; done) | (and_intros <;> first | omega | exact Nat.le_refl _ | (simp; done) | (simp; omega)))
  ·
    with_reducible refine WA.skipN ?_
    repeat first | with_reducible refine WN.t ?_ | with_reducible refine WN.b ?_
    have h : 4 ≤ d.length := by first | (simp only [Bool.and_eq_true, Bool.or_eq_true, Bool.not_eq_true', decide_eq_true_eq, decide_eq_false_iff_not, beq_iff_eq, bne_iff_ne, ne_eq, Bool.not_eq_eq_eq_not, Bool.not_true, Bool.not_false, beq_eq_false_iff_ne, bne_eq_false_iff_eq, Bool.and_eq_false_imp, Bool.or_eq_false_iff, Bool.cond_false_right, Bool.cond_true_left, Bool.cond_false_left, Bool.cond_true_right, gt_iff_lt, ge_iff_le, true_and] at h; first | exact h | omega) | omega | simpa using h
    have c3 : 3 ≤ d.length := by omega
    refine WA.regionK ty_ok hs fun K hK => ?_
    simp only [go_sem, Nat.reduceAdd, Nat.reduceLT, Nat.reduceLeDiff, Nat.reduceEqDiff, Nat.reduceSub, Nat.reduceMul, Nat.reduceBEq, Nat.reduceBNe, Nat.reducePow, Nat.reduceDiv, Int.reduceLE, Int.reduceLT, Int.reduceToNat, Int.reduceNeg, Int.reduceAdd, Int.reduceSub, Int.reduceEq, reduceIte, reduceCtorEq, UInt8.reduceOfNat, sgX, c3]
    repeat refine And.intro (by first | omega | assumption | (simp; done) | (simp; omega) | (simp +contextual; done) | (simp_all; done) | (simp_all; omega)) ?_
    refine hK _ ?_
    clear hK K
    obtain ⟨now, hnow⟩ : ∃ x : Int, ((numS (d.take 3) : Nat) : Int) = x := ⟨_, rfl⟩
    rw [hnow] at hf0 ⊢
    refine ownC 2072 2 0 (.agg [.lit (.slice none 0 0), .lit (.int .i64 now)]) (.li 5 []) rfl rfl rfl (x' := .agg [.sl 2088 5 0 0, .lit (.int .i64 now)]) rfl ?_
    refine WA.regionK ty_ok hs fun K hK => ?_
    simp only [go_sem, Nat.reduceAdd, Nat.reduceLT, Nat.reduceLeDiff, Nat.reduceEqDiff, Nat.reduceSub, Nat.reduceMul, Nat.reduceBEq, Nat.reduceBNe, Nat.reducePow, Nat.reduceDiv, Int.reduceLE, Int.reduceLT, Int.reduceToNat, Int.reduceNeg, Int.reduceAdd, Int.reduceSub, Int.reduceEq, reduceIte, reduceCtorEq, UInt8.reduceOfNat, true_and]
    repeat refine And.intro (by first | omega | assumption | (simp; done) | (simp; omega) | (simp +contextual; done) | (simp_all; done) | (simp_all; omega)) ?_
    refine hK _ ?_
    clear hK K
    refine WA.seq ?_
    refine WA.regionK ty_ok hs fun K hK => ?_
    simp only [go_sem, Nat.reduceAdd, Nat.reduceLT, Nat.reduceLeDiff, Nat.reduceEqDiff, Nat.reduceSub, Nat.reduceMul, Nat.reduceBEq, Nat.reduceBNe, Nat.reducePow, Nat.reduceDiv, Int.reduceLE, Int.reduceLT, Int.reduceToNat, Int.reduceNeg, Int.reduceAdd, Int.reduceSub, Int.reduceEq, reduceIte, reduceCtorEq, UInt8.reduceOfNat, true_and]
    repeat refine And.intro (by first | omega | assumption | (simp; done) | (simp; omega) | (simp +contextual; done) | (simp_all; done) | (simp_all; omega)) ?_
    refine hK _ ?_
    clear hK K
    refine WA.block ?_
    obtain ⟨n, hnn⟩ : ∃ x, (d.getD 3 0).toNat = x := ⟨_, rfl⟩
    have c9 := (d.getD 3 0).toNat_lt
    rw [hnn] at hf0 c9
    have wn : IntKind.i64.wrap (n : Int) = n := wrap_i64 (by omega) (by omega)
    refine WA.loopW hX (fun k => if k = 3008 then 2072 else if k = 3016 then 2000 else if k = 3024 then 2088 else k) ((fun (i : Nat × Nat × List Pt) => ⟨[(0, .by_ d), (2, .ptr 3016 0 0), (4, .ptr 3008 0 0), (5, .lit (.int .i64 (i.2.1 : Nat))), (6, .lit (.int .i64 (i.1 : Nat)))], [(3008, ⟨.li 2 [.agg [.sl 3024 5 0 i.2.2.length, .lit (.int .i64 now)]], 0, false⟩), (3016, ⟨.li 2 [.agg [.lit (.slice none 0 0), .lit (.int .i64 0)]], 0, false⟩), (3024, ⟨.li 5 (i.2.2.map ptA), 0, false⟩)], 4000, 109⟩ : _ → St)) (fun i => 3 - i.1) (fun i => i.1 ≤ 3 ∧ i.2.2.length = i.1 ∧ i.2.1 ≤ d.length ∧ NmOK i.2.2 ∧ FitR d i.1 i.2.1 false i.2.2 now n) (i0 := (0, 4, [])) (⟨Nat.zero_le _, rfl, h, nm_nil, hf0⟩) (by simp only [go_sem, Int.natCast_add, Nat.reduceAdd, Nat.reduceLT, Nat.reduceLeDiff, Nat.reduceEqDiff, Nat.reduceSub, Nat.reduceMul, Nat.reduceBEq, Nat.reduceBNe, Nat.reducePow, Nat.reduceDiv, Int.reduceLE, Int.reduceLT, Int.reduceToNat, Int.reduceNeg, Int.reduceAdd, Int.reduceSub, Int.reduceEq, reduceIte, reduceCtorEq, UInt8.reduceOfNat, Int.natCast_zero, Int.cast_ofNat_Int] <;> (try and_intros) <;> (try omega)) fun ⟨i, p, l⟩ hi => ?_
    obtain ⟨hi, hl, hp, hm, hf⟩ := hi
    simp only at hi hl hp hm hf
    refine WA.seq ?_
    refine WA.regionK ty_ok hs fun K hK => ?_
    simp only [go_sem, Nat.reduceAdd, Nat.reduceLT, Nat.reduceLeDiff, Nat.reduceEqDiff, Nat.reduceSub, Nat.reduceMul, Nat.reduceBEq, Nat.reduceBNe, Nat.reducePow, Nat.reduceDiv, Int.reduceLE, Int.reduceLT, Int.reduceToNat, Int.reduceNeg, Int.reduceAdd, Int.reduceSub, Int.reduceEq, reduceIte, reduceCtorEq, UInt8.reduceOfNat, hnn, wn]
    repeat refine And.intro (by first | omega | assumption | (simp; done) | (simp; omega) | (simp +contextual; done) | (simp_all; done) | (simp_all; omega)) ?_
    refine hK _ ?_
    clear hK K
    refine WA.cond rfl (fun h => ?_) (fun h => ?_)
    ·
      with_reducible refine WA.skipN ?_
      repeat first | with_reducible refine WN.t ?_ | with_reducible refine WN.b ?_
      refine WA.seq ?_
      refine WA.block ?_
      refine WA.seq ?_
      have c8 := (d.getD p 0).toNat_lt
      obtain ⟨k, hk⟩ : ∃ x, (d.getD p 0).toNat = x := ⟨_, rfl⟩
      rw [hk] at c8
      have wk : IntKind.i64.wrap (k : Int) = k := wrap_i64 (by omega) (by omega)
      have h : (i : Int) < n ∧ (i : Int) < 3 := by first | (simp only [Bool.and_eq_true, Bool.or_eq_true, Bool.not_eq_true', decide_eq_true_eq, decide_eq_false_iff_not, beq_iff_eq, bne_iff_ne, ne_eq, Bool.not_eq_eq_eq_not, Bool.not_true, Bool.not_false, beq_eq_false_iff_ne, bne_eq_false_iff_eq, Bool.and_eq_false_imp, Bool.or_eq_false_iff, Bool.cond_false_right, Bool.cond_true_left, Bool.cond_false_left, Bool.cond_true_right, gt_iff_lt, ge_iff_le, true_and] at h; first | exact h | omega) | omega | simpa using h
      refine WA.regionK ty_ok hs fun K hK => ?_
      simp only [go_sem, Nat.reduceAdd, Nat.reduceLT, Nat.reduceLeDiff, Nat.reduceEqDiff, Nat.reduceSub, Nat.reduceMul, Nat.reduceBEq, Nat.reduceBNe, Nat.reducePow, Nat.reduceDiv, Int.reduceLE, Int.reduceLT, Int.reduceToNat, Int.reduceNeg, Int.reduceAdd, Int.reduceSub, Int.reduceEq, reduceIte, reduceCtorEq, UInt8.reduceOfNat, hk, wk]
      repeat refine And.intro (by and_intros <;> intro g <;> have g2 := g <;> simp only [Bool.not_eq_true', decide_eq_false_iff_not] at g2 <;> and_intros <;> first | exact g | (simp [*]; done) | omega | skip) ?_
      refine hK _ ?_
      clear hK K
      have fs := fitq hf (by omega)
      rw [hk] at fs
      refine WA.cond rfl (fun h => ?_) (fun h => ?_)
      ·
        have hno : ∀ s, ¬ okS d s := fun s hs => by
          have h1 := fs.2 s hs
          have h2 : decide ((p : Int) ≥ (d.length : Nat)) = false := decide_eq_false (by omega)
          have h3 : decide ((p : Int) + 1 + k + 12 > (d.length : Nat)) = false := decide_eq_false (by omega)
          rw [h2, h3] at h
          cases h
        rw [(dc_no hno).1, (dc_no hno).2]
        refine WA.regionK ty_ok hs fun K hK => ?_
        simp only [go_sem, Nat.reduceAdd, Nat.reduceLT, Nat.reduceLeDiff, Nat.reduceEqDiff, Nat.reduceSub, Nat.reduceMul, Nat.reduceBEq, Nat.reduceBNe, Nat.reducePow, Nat.reduceDiv, Int.reduceLE, Int.reduceLT, Int.reduceToNat, Int.reduceNeg, Int.reduceAdd, Int.reduceSub, Int.reduceEq, reduceIte, reduceCtorEq, UInt8.reduceOfNat, true_and]
        repeat refine And.intro (by first | omega | assumption | (simp; done) | (simp; omega) | (simp +contextual; done) | (simp_all; done) | (simp_all; omega)) ?_
        refine hK _ ?_
        clear hK K
        refine WA.retE ty_ok (xs := [.agg [.li 5 [], .lit (.int .i64 0)], .lit (.int .i64 1)]) (ls' := []) (rv := [.cell 2 24, .tmp 3]) rfl hX (by decide) (fun _ => rfl) (fun _ _ h => h) ?_
        simp only [go_sem, Nat.reduceAdd, Nat.reduceLT, Nat.reduceLeDiff, Nat.reduceEqDiff, Nat.reduceSub, Nat.reduceMul, Nat.reduceBEq, Nat.reduceBNe, Nat.reducePow, Nat.reduceDiv, Int.reduceLE, Int.reduceLT, Int.reduceToNat, Int.reduceNeg, Int.reduceAdd, Int.reduceSub, Int.reduceEq, reduceIte, reduceCtorEq, UInt8.reduceOfNat, sbT]
        all_goals (first | done | exact Nat.le_refl _ | (simp; done) | (and_intros <;> first | omega | exact Nat.le_refl _ | (simp; done) | (simp; omega)))
      ·
        have h2 : p < d.length ∧ p + 1 + k + 12 ≤ d.length := by
          cases h1 : decide ((p : Int) ≥ (d.length : Nat))
          · rw [h1] at h
            have h3 := of_decide_eq_false (show decide ((p : Int) + 1 + k + 12 > (d.length : Nat)) = false from h)
            omega
          · rw [h1] at h
            cases h
        clear h
        obtain ⟨h2, h3⟩ := h2
        with_reducible refine WA.skipN ?_
        repeat first | with_reducible refine WN.t ?_ | with_reducible refine WN.b ?_
        refine WA.regionK ty_ok hs fun K hK => ?_
        simp only [go_sem, Nat.reduceAdd, Nat.reduceLT, Nat.reduceLeDiff, Nat.reduceEqDiff, Nat.reduceSub, Nat.reduceMul, Nat.reduceBEq, Nat.reduceBNe, Nat.reducePow, Nat.reduceDiv, Int.reduceLE, Int.reduceLT, Int.reduceToNat, Int.reduceNeg, Int.reduceAdd, Int.reduceSub, Int.reduceEq, reduceIte, reduceCtorEq, UInt8.reduceOfNat, hk, wk]
        repeat refine And.intro (by first | omega | assumption | (simp; done) | (simp; omega) | (simp +contextual; done) | (simp_all; done) | (simp_all; omega)) ?_
        refine hK _ ?_
        clear hK K
        have e1 : ((p : Int) + 1 + k).toNat = p + 1 + k := by omega
        have e2 : ((p : Int) + 1).toNat = p + 1 := by omega
        have e3 : List.drop (p + 1) (List.take (p + 1 + k) d) = (d.drop (p + 1)).take k := by
          rw [List.drop_take]
          congr 1
          omega
        have e4 := fs.1
        unfold rqPt at e4
        simp only [hk] at e4
        obtain ⟨y, hy⟩ : ∃ y, d.drop (p + 1 + k) = y := ⟨_, rfl⟩
        have ly : 12 ≤ y.length := by rw [← hy, List.length_drop]; omega
        have l4 : 4 ≤ y.length := by omega
        have l6 : 6 ≤ y.length := by omega
        have l9 : 9 ≤ y.length := by omega
        obtain ⟨g, hg⟩ : ∃ y, (d.drop (p + 1)).take k = y := ⟨_, rfl⟩
        have lg : g.length ≤ 9223372036854775807 := by rw [← hg, List.length_take]; omega
        rw [hy, hg] at e4
        refine WA.regionK ty_ok hs fun K hK => ?_
        simp only [go_sem, Nat.reduceAdd, Nat.reduceLT, Nat.reduceLeDiff, Nat.reduceEqDiff, Nat.reduceSub, Nat.reduceMul, Nat.reduceBEq, Nat.reduceBNe, Nat.reducePow, Nat.reduceDiv, Int.reduceLE, Int.reduceLT, Int.reduceToNat, Int.reduceNeg, Int.reduceAdd, Int.reduceSub, Int.reduceEq, reduceIte, reduceCtorEq, UInt8.reduceOfNat, e1, hy]
        repeat refine And.intro (by first | omega | assumption | (simp; done) | (simp; omega) | (simp +contextual; done) | (simp_all; done) | (simp_all; omega)) ?_
        refine hK _ ?_
        clear hK K
        refine WA.drawnK mixed_ ty_ok hs (tbl := [[], [0], [], [], [3], [], [5], [], [5, 6, 7], [2, 3, 4, 5, 6, 7, 8], [2, 3, 4, 5, 6, 7, 8, 9], [], [11], [11, 12], [], [14], [11, 12, 13, 14, 15], [], [17], [11, 12, 13, 14, 15, 16, 17, 18], [], [20], [11, 12, 13, 14, 15, 16, 17, 18, 19, 20, 21], [2, 3, 4, 5, 6, 7, 8, 9, 10, 11, 12, 13, 14, 15, 16, 17, 18, 19, 20, 21, 22], [2, 3, 4, 5, 6, 7, 8, 9, 10, 11, 12, 13, 14, 15, 16, 17, 18, 19, 20, 21, 22, 23], [0, 1, 2, 3, 4, 5, 6, 7, 8, 9, 10, 11, 12, 13, 14, 15, 16, 17, 18, 19, 20, 21, 22, 23, 24], [0, 1, 2, 3, 4, 5, 6, 7, 8, 9, 10, 11, 12, 13, 14, 15, 16, 17, 18, 19, 20, 21, 22, 23, 24, 25], [0, 1, 2, 3, 4, 5, 6, 7, 8, 9, 10, 11, 12, 13, 14, 15, 16, 17, 18, 19, 20, 21, 22, 23, 24, 25, 26]]) (nb := [1, 13, 16, 19, 22, 25, 27]) (by kernel_rfl) fun K hK => ?_
        simp only [go_sem, Nat.reduceAdd, Nat.reduceLT, Nat.reduceLeDiff, Nat.reduceEqDiff, Nat.reduceSub, Nat.reduceMul, Nat.reduceBEq, Nat.reduceBNe, Nat.reducePow, Nat.reduceDiv, Int.reduceLE, Int.reduceLT, Int.reduceToNat, Int.reduceNeg, Int.reduceAdd, Int.reduceSub, Int.reduceEq, reduceIte, reduceCtorEq, UInt8.reduceOfNat, sgX, e1, e2, e3, hg, l4, l6, l9, ly]
        repeat refine And.intro (by first | omega | assumption | (simp; done) | (simp; omega) | (simp +contextual; done) | (simp_all; done) | (simp_all; omega)) ?_
        refine hK _ ?_
        clear hK K
        refine WA.regionE ty_ok hs fun K hK => ?_
        simp only [go_sem, Nat.reduceAdd, Nat.reduceLT, Nat.reduceLeDiff, Nat.reduceEqDiff, Nat.reduceSub, Nat.reduceMul, Nat.reduceBEq, Nat.reduceBNe, Nat.reducePow, Nat.reduceDiv, Int.reduceLE, Int.reduceLT, Int.reduceToNat, Int.reduceNeg, Int.reduceAdd, Int.reduceSub, Int.reduceEq, reduceIte, reduceCtorEq, UInt8.reduceOfNat, true_and]
        repeat refine And.intro (by first | omega | assumption | (simp; done) | (simp; omega) | (simp +contextual; done) | (simp_all; done) | (simp_all; omega)) ?_
        with_reducible refine hK _ (WN.mk ?_)
        clear hK K
        repeat first | with_reducible refine WN.t ?_ | with_reducible refine WN.b ?_
        refine WA.regionE ty_ok hs fun K hK => ?_
        simp only [go_sem, Nat.reduceAdd, Nat.reduceLT, Nat.reduceLeDiff, Nat.reduceEqDiff, Nat.reduceSub, Nat.reduceMul, Nat.reduceBEq, Nat.reduceBNe, Nat.reducePow, Nat.reduceDiv, Int.reduceLE, Int.reduceLT, Int.reduceToNat, Int.reduceNeg, Int.reduceAdd, Int.reduceSub, Int.reduceEq, reduceIte, reduceCtorEq, UInt8.reduceOfNat, true_and]
        repeat refine And.intro (by first | omega | assumption | (simp; done) | (simp; omega) | (simp +contextual; done) | (simp_all; done) | (simp_all; omega)) ?_
        have t9 := TrC_pts (l ++ [⟨g, (numS (y.take 4) : Nat), (numS ((y.take 6).drop 4) : Nat), (numS ((y.take 9).drop 6) : Nat), (numS ((y.take 12).drop 9) : Nat)⟩])
        simp only [List.map_append, List.map_cons, List.map_nil, ptA] at t9
        refine hK _ (roundE hX (fun k => if k = 3024 then 4528 else k) (j := (i + 1, p + 1 + k + 12, l ++ [⟨g, (numS (y.take 4) : Nat), (numS ((y.take 6).drop 4) : Nat), (numS ((y.take 9).drop 6) : Nat), (numS ((y.take 12).drop 9) : Nat)⟩])) (⟨by omega, by simp [hl], h3, nm_snoc hm lg, e4⟩) (by first | omega | (dsimp only; omega) | (simp; omega)) (by simp only [go_sem, Int.natCast_add, Nat.reduceAdd, Nat.reduceLT, Nat.reduceLeDiff, Nat.reduceEqDiff, Nat.reduceSub, Nat.reduceMul, Nat.reduceBEq, Nat.reduceBNe, Nat.reducePow, Nat.reduceDiv, Int.reduceLE, Int.reduceLT, Int.reduceToNat, Int.reduceNeg, Int.reduceAdd, Int.reduceSub, Int.reduceEq, reduceIte, reduceCtorEq, UInt8.reduceOfNat, t9, List.map_append, List.map_cons, List.map_nil, ptA] <;> (try and_intros) <;> (try omega)))
    ·
      with_reducible refine WA.exitX ?_
      repeat first | with_reducible refine WX.b ?_ | with_reducible refine WX.t ?_ | (with_reducible refine WX.n ?hne ?_; case hne => rfl)
      have hi2 : ¬ ((i : Int) < n ∧ (i : Int) < 3) := fun q => by
        rw [decide_eq_true q.1, decide_eq_true q.2] at h
        cases h
      have fe : ∀ s, okS d s → (⟨l, now⟩ : Sto) = s := fun s hs => by
        have := (hf s hs).2.2.2.2.2
        have := (valid_ok hs.1).1
        exact (fit_end hf (by omega) s hs).1
      refine WA.regionK ty_ok hs fun K hK => ?_
      simp only [go_sem, Nat.reduceAdd, Nat.reduceLT, Nat.reduceLeDiff, Nat.reduceEqDiff, Nat.reduceSub, Nat.reduceMul, Nat.reduceBEq, Nat.reduceBNe, Nat.reducePow, Nat.reduceDiv, Int.reduceLE, Int.reduceLT, Int.reduceToNat, Int.reduceNeg, Int.reduceAdd, Int.reduceSub, Int.reduceEq, reduceIte, reduceCtorEq, UInt8.reduceOfNat, sgX, TrC_pts, take_pts, un_pts, hm]
      repeat refine And.intro (by first | omega | assumption | (simp; done) | (simp; omega) | (simp +contextual; done) | (simp_all; done) | (simp_all; omega)) ?_
      refine hK _ ?_
      clear hK K
      refine WA.seq ?_
      refine WA.regionK ty_ok hs fun K hK => ?_
      simp only [go_sem, Nat.reduceAdd, Nat.reduceLT, Nat.reduceLeDiff, Nat.reduceEqDiff, Nat.reduceSub, Nat.reduceMul, Nat.reduceBEq, Nat.reduceBNe, Nat.reducePow, Nat.reduceDiv, Int.reduceLE, Int.reduceLT, Int.reduceToNat, Int.reduceNeg, Int.reduceAdd, Int.reduceSub, Int.reduceEq, reduceIte, reduceCtorEq, UInt8.reduceOfNat, strB_toList]
      repeat refine And.intro (by first | omega | assumption | (simp; done) | (simp; omega) | (simp +contextual; done) | (simp_all; done) | (simp_all; omega)) ?_
      refine hK _ ?_
      clear hK K
      refine WA.cond rfl (fun h => ?_) (fun h => ?_)
      ·
        have hno : ∀ s, ¬ okS d s := fun s hs => by
          obtain rfl := fe s hs
          simp [hs.1, hs.2] at h
        rw [(dc_no hno).1, (dc_no hno).2]
        refine WA.regionK ty_ok hs fun K hK => ?_
        simp only [go_sem, Nat.reduceAdd, Nat.reduceLT, Nat.reduceLeDiff, Nat.reduceEqDiff, Nat.reduceSub, Nat.reduceMul, Nat.reduceBEq, Nat.reduceBNe, Nat.reducePow, Nat.reduceDiv, Int.reduceLE, Int.reduceLT, Int.reduceToNat, Int.reduceNeg, Int.reduceAdd, Int.reduceSub, Int.reduceEq, reduceIte, reduceCtorEq, UInt8.reduceOfNat, true_and]
        repeat refine And.intro (by first | omega | assumption | (simp; done) | (simp; omega) | (simp +contextual; done) | (simp_all; done) | (simp_all; omega)) ?_
        refine hK _ ?_
        clear hK K
        refine WA.retE ty_ok (xs := [.agg [.li 5 [], .lit (.int .i64 0)], .lit (.int .i64 1)]) (ls' := []) (rv := [.cell 2 24, .tmp 3]) rfl hX (by decide) (fun _ => rfl) (fun _ _ h => h) ?_
        simp only [go_sem, Nat.reduceAdd, Nat.reduceLT, Nat.reduceLeDiff, Nat.reduceEqDiff, Nat.reduceSub, Nat.reduceMul, Nat.reduceBEq, Nat.reduceBNe, Nat.reducePow, Nat.reduceDiv, Int.reduceLE, Int.reduceLT, Int.reduceToNat, Int.reduceNeg, Int.reduceAdd, Int.reduceSub, Int.reduceEq, reduceIte, reduceCtorEq, UInt8.reduceOfNat, sbT]
        all_goals (first | done | exact Nat.le_refl _ | (simp; done) | (and_intros <;> first | omega | exact Nat.le_refl _ | (simp; done) | (simp; omega)))
      ·
        have hy : okS d ⟨l, now⟩ := by
          simp at h
          exact h
        rw [(dc_yes hy).1, (dc_yes hy).2]
        with_reducible refine WA.skipN ?_
        repeat first | with_reducible refine WN.t ?_ | with_reducible refine WN.b ?_
        refine WA.regionK ty_ok hs fun K hK => ?_
        simp only [go_sem, Nat.reduceAdd, Nat.reduceLT, Nat.reduceLeDiff, Nat.reduceEqDiff, Nat.reduceSub, Nat.reduceMul, Nat.reduceBEq, Nat.reduceBNe, Nat.reducePow, Nat.reduceDiv, Int.reduceLE, Int.reduceLT, Int.reduceToNat, Int.reduceNeg, Int.reduceAdd, Int.reduceSub, Int.reduceEq, reduceIte, reduceCtorEq, UInt8.reduceOfNat, TrC_pts, take_pts]
        repeat refine And.intro (by first | omega | assumption | (simp; done) | (simp; omega) | (simp +contextual; done) | (simp_all; done) | (simp_all; omega)) ?_
        refine hK _ ?_
        clear hK K
        refine WA.retE ty_ok (xs := [.agg [.li 5 (l.map ptA), .lit (.int .i64 now)], .lit (.int .i64 0)]) (ls' := []) (rv := [.cell 2 24, .tmp 3]) rfl hX (by decide) (fun _ => rfl) (fun _ _ h => h) ?_
        simp only [go_sem, Nat.reduceAdd, Nat.reduceLT, Nat.reduceLeDiff, Nat.reduceEqDiff, Nat.reduceSub, Nat.reduceMul, Nat.reduceBEq, Nat.reduceBNe, Nat.reducePow, Nat.reduceDiv, Int.reduceLE, Int.reduceLT, Int.reduceToNat, Int.reduceNeg, Int.reduceAdd, Int.reduceSub, Int.reduceEq, reduceIte, reduceCtorEq, UInt8.reduceOfNat, sbT, TrC_pts, take_pts, Tr_pts]
        all_goals (first | done | exact Nat.le_refl _ | (simp; done) | (and_intros <;> first | omega | exact Nat.le_refl _ | (simp; done) | (simp; omega)))
end Go.Proofs.YtgmmdijmlnehlaaDoor
