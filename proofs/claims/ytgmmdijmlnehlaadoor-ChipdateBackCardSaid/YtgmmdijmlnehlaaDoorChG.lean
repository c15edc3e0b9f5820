import Derived.Test.YtgmmdijmlnehlaaDoorChF
import Derived.Test.YtgmmdijmlnehlaaDoorAbsDr
namespace Go.Proofs.YtgmmdijmlnehlaaDoor
open Go.RowKit Go.TravelBase Go.TravelAbs
set_option linter.unusedVariables false
set_option linter.unusedSimpArgs false



















/-! ### Encode -/
theorem point_ok {p : Pt} (h : pointE p = 0) : (1 ≤ p.h.length ∧ p.h.length ≤ 16) ∧ eltB p.key = true ∧ (0 ≤ p.rt ∧ p.rt ≤ 65535) ∧ (0 ≤ p.fr ∧ p.fr ≤ 73048) ∧ (0 ≤ p.til ∧ p.til ≤ 73048) := by
  unfold pointE at h
  split at h
  · cases h
  · rename_i h1
    split at h
    · cases h
    · rename_i h2
      split at h
      · cases h
      · rename_i h3
        split at h
        · cases h
        · rename_i h4
          simp only [nameB, decide_eq_false_iff_not, Decidable.not_not] at h1
          simp only [Bool.not_eq_false] at h2 h4
          simp only [daysB, Bool.and_eq_true, decide_eq_true_eq] at h4
          exact ⟨⟨h1.1, h1.2.1⟩, h2, by omega, by omega, by omega⟩
theorem firE_all : ∀ {l : List Pt}, firE l = 0 → ∀ p ∈ l, pointE p = 0
  | [], _, p, hp => by cases hp
  | q :: r, h, p, hp => by
    rw [firE] at h
    split at h
    · rename_i h0
      rcases List.mem_cons.1 hp with rfl | hp
      · exact h0
      · exact firE_all h p hp
    · rename_i h0
      exact absurd h h0
theorem valid_ok {s : Sto} (h : validE s = 0) : (1 ≤ s.pts.length ∧ s.pts.length ≤ 2) ∧ (∀ p ∈ s.pts, pointE p = 0) ∧ (0 ≤ s.now ∧ s.now ≤ 73048) := by
  unfold validE at h
  split at h
  · cases h
  · rename_i h1
    split at h
    · rename_i h2
      exact absurd h h2
    · rename_i h2
      simp only [ne_eq, Decidable.not_not] at h2
      split at h
      · cases h
      · split at h
        · cases h
        · rename_i h4
          simp only [Bool.not_eq_false, dayB, Bool.and_eq_true, decide_eq_true_eq] at h4
          exact ⟨by omega, firE_all h2, h4⟩
def encPt (p : Pt) : List UInt8 := [byt (p.h.length : Nat)] ++ p.h ++ encL p.key ++ le2 p.rt ++ le3 p.fr ++ le3 p.til
def acE (now : Int) (l : List Pt) (i : Nat) : List UInt8 := le3 now ++ [byt (l.length : Nat)] ++ ((l.take i).map encPt).flatten
theorem acE_0 (now : Int) (l : List Pt) : acE now l 0 = le3 now ++ [byt (l.length : Nat)] := by simp [acE]
theorem acE_succ {now : Int} {l : List Pt} {i : Nat} (h : i < l.length) : acE now l (i + 1) = acE now l i ++ encPt l[i] := by
  unfold acE
  rw [List.take_add_one, List.getElem?_eq_getElem h, Option.toList_some, List.map_append, List.flatten_append]
  simp
theorem encPt_len {p : Pt} (h : pointE p = 0) : (encPt p).length = 13 + p.h.length := by
  obtain ⟨_, h2, _⟩ := point_ok h
  simp [encPt, encL, h2, length_beS, le2, le3]
  omega
theorem acE_len {now : Int} {l : List Pt} (h : ∀ p ∈ l, pointE p = 0) : ∀ {i : Nat}, i ≤ l.length → (acE now l i).length ≤ 4 + 29 * i
  | 0, _ => by simp [acE_0, le3]
  | i + 1, hi => by
    have h1 := h _ (List.getElem_mem (by omega : i < l.length))
    have h2 := encPt_len h1
    have h3 := (point_ok h1).1
    have h4 := acE_len (now := now) h (i := i) (by omega)
    rw [acE_succ (by omega), List.length_append]
    omega
def encS (s : Sto) : List UInt8 := if validE s = 0 then acE s.now s.pts s.pts.length else []
def sgE : Sg := fun f args ls =>
  match f, args, ls with
  | 11, [.agg [.li es xs, .lit (.int .i64 now)]], [] => some (.lit (.int .i64 (validE ⟨xs.map unT, now⟩)), [], es = 5 ∧ xs = (xs.map unT).map ptA)
  | 31, [.lit (.int .i64 d)], [] => some (.fr (.by_ (le3 d)), [], True)
  | 32, [.lit (.int .i64 x)], [] => some (.tup [.fr (.by_ (encL x)), .lit (.int .i64 (encE x))], [], True)
  | _, _, _ => none
theorem sgE_ok : SgOK Tryd.prog sgE := by
  intro f args ls r ls' vc h hvc
  unfold sgE at h
  split at h <;> first | (simp only [Option.some.injEq, Prod.mk.injEq] at h; obtain ⟨rfl, rfl, rfl⟩ := h) | cases h
  · obtain ⟨rfl, h2⟩ := hvc
    refine ⟨(fnOK Tryd.func11 (by decide) rfl), ?_⟩
    rename_i xs now
    have := valid_s ⟨xs.map unT, now⟩
    unfold stoA at this
    rw [← h2] at this
    exact this
  · exact ⟨(fnOK Tryd.func31 (by decide) rfl), day_s _⟩
  · exact ⟨(fnOK Tryd.func32 (by decide) rfl), genc_s _⟩
theorem encode_s (s : Sto) : FnS Tryd.prog 13 [stoA s] [] (.tup [.by_ (encS s), .lit (.int .i64 (validE s))]) [] := by
  obtain ⟨l, now⟩ := s
  have hs := sgE_ok
  have ht := Tr_pts l
  have hu := un_pts l
  unfold stoA
  refine FnS.of Tryd.func13 rfl (N := 73) rfl (by simp) (by simp) fun X hX => ?_
  simp only [tmArgs, lentH, Nat.reduceAdd]
  refine WA.regionK ty_ok hs fun K hK => ?_
  simp only [go_sem, Nat.reduceAdd, Nat.reduceLT, Nat.reduceLeDiff, Nat.reduceEqDiff, Nat.reduceSub, Nat.reduceMul, Nat.reduceBEq, Nat.reduceBNe, Nat.reducePow, Nat.reduceDiv, Int.reduceLE, Int.reduceLT, Int.reduceToNat, Int.reduceNeg, Int.reduceAdd, Int.reduceSub, Int.reduceEq, reduceIte, reduceCtorEq, UInt8.reduceOfNat, ht]
  repeat refine And.intro (by first | omega | assumption | (simp; done) | (simp; omega) | (simp +contextual; done) | (simp_all; done) | (simp_all; omega)) ?_
  refine hK _ ?_
  clear hK K
  refine WA.seq ?_
  refine WA.regionK ty_ok hs fun K hK => ?_
  simp only [go_sem, Nat.reduceAdd, Nat.reduceLT, Nat.reduceLeDiff, Nat.reduceEqDiff, Nat.reduceSub, Nat.reduceMul, Nat.reduceBEq, Nat.reduceBNe, Nat.reducePow, Nat.reduceDiv, Int.reduceLE, Int.reduceLT, Int.reduceToNat, Int.reduceNeg, Int.reduceAdd, Int.reduceSub, Int.reduceEq, reduceIte, reduceCtorEq, UInt8.reduceOfNat, sgE, ht, hu]
  repeat refine And.intro (by first | omega | assumption | (simp; done) | (simp; omega) | (simp +contextual; done) | (simp_all; done) | (simp_all; omega)) ?_
  refine hK _ ?_
  clear hK K
  refine WA.regionK ty_ok hs fun K hK => ?_
  simp only [go_sem, Nat.reduceAdd, Nat.reduceLT, Nat.reduceLeDiff, Nat.reduceEqDiff, Nat.reduceSub, Nat.reduceMul, Nat.reduceBEq, Nat.reduceBNe, Nat.reducePow, Nat.reduceDiv, Int.reduceLE, Int.reduceLT, Int.reduceToNat, Int.reduceNeg, Int.reduceAdd, Int.reduceSub, Int.reduceEq, reduceIte, reduceCtorEq, UInt8.reduceOfNat, true_and]
  repeat refine And.intro (by first | omega | assumption | (simp; done) | (simp; omega) | (simp +contextual; done) | (simp_all; done) | (simp_all; omega)) ?_
  refine hK _ ?_
  clear hK K
  refine WA.cond rfl (fun h => ?_) (fun h => ?_)
  ·
    have h : ¬ validE ⟨l, now⟩ = 0 := by first | (simp only [Bool.and_eq_true, Bool.or_eq_true, Bool.not_eq_true', decide_eq_true_eq, decide_eq_false_iff_not, beq_iff_eq, bne_iff_ne, ne_eq, Bool.not_eq_eq_eq_not, Bool.not_true, Bool.not_false, beq_eq_false_iff_ne, bne_eq_false_iff_eq, Bool.and_eq_false_imp, Bool.or_eq_false_iff, Bool.cond_false_right, Bool.cond_true_left, Bool.cond_false_left, Bool.cond_true_right, gt_iff_lt, ge_iff_le, true_and] at h; first | exact h | omega) | omega | simpa using h
    have e : encS ⟨l, now⟩ = [] := if_neg h
    refine WA.regionK ty_ok hs fun K hK => ?_
    simp only [go_sem, Nat.reduceAdd, Nat.reduceLT, Nat.reduceLeDiff, Nat.reduceEqDiff, Nat.reduceSub, Nat.reduceMul, Nat.reduceBEq, Nat.reduceBNe, Nat.reducePow, Nat.reduceDiv, Int.reduceLE, Int.reduceLT, Int.reduceToNat, Int.reduceNeg, Int.reduceAdd, Int.reduceSub, Int.reduceEq, reduceIte, reduceCtorEq, UInt8.reduceOfNat, true_and]
    repeat refine And.intro (by first | omega | assumption | (simp; done) | (simp; omega) | (simp +contextual; done) | (simp_all; done) | (simp_all; omega)) ?_
    refine hK _ ?_
    clear hK K
    refine WA.retE ty_ok (xs := [.by_ (encS ⟨l, now⟩), .lit (.int .i64 (validE ⟨l, now⟩))]) (ls' := []) (rv := [.tmp 2, .tmp 3]) rfl hX (by decide) (fun _ => rfl) (fun _ _ h => h) ?_
    simp only [go_sem, Nat.reduceAdd, Nat.reduceLT, Nat.reduceLeDiff, Nat.reduceEqDiff, Nat.reduceSub, Nat.reduceMul, Nat.reduceBEq, Nat.reduceBNe, Nat.reducePow, Nat.reduceDiv, Int.reduceLE, Int.reduceLT, Int.reduceToNat, Int.reduceNeg, Int.reduceAdd, Int.reduceSub, Int.reduceEq, reduceIte, reduceCtorEq, UInt8.reduceOfNat, sbT, e]
    all_goals (first | done | exact Nat.le_refl _ | (simp; done) | (and_intros <;> first | omega | exact Nat.le_refl _ | (simp; done) | (simp; omega)))
  ·
    with_reducible refine WA.skipN ?_
    repeat first | with_reducible refine WN.t ?_ | with_reducible refine WN.b ?_
    have h : validE ⟨l, now⟩ = 0 := by first | (simp only [Bool.and_eq_true, Bool.or_eq_true, Bool.not_eq_true', decide_eq_true_eq, decide_eq_false_iff_not, beq_iff_eq, bne_iff_ne, ne_eq, Bool.not_eq_eq_eq_not, Bool.not_true, Bool.not_false, beq_eq_false_iff_ne, bne_eq_false_iff_eq, Bool.and_eq_false_imp, Bool.or_eq_false_iff, Bool.cond_false_right, Bool.cond_true_left, Bool.cond_false_left, Bool.cond_true_right, gt_iff_lt, ge_iff_le, true_and] at h; first | exact h | omega) | omega | simpa using h
    have hv := h
    have e : encS ⟨l, now⟩ = acE now l l.length := if_pos h
    obtain ⟨v1, v2, v3⟩ := valid_ok h
    simp only at v1 v2 v3
    clear h
    have z0 := acE_0 now l
    unfold le3 byt at z0
    refine WA.drawnH mixed_ ty_ok hs (tbl := [[], [0], [0, 1], [], [3], [3, 4], [3, 4, 5], [3, 4, 5, 6], [0, 1, 2, 3, 4, 5, 6, 7], [0, 1, 2, 3, 4, 5, 6, 7, 8]]) (nb := [1, 2, 4, 8]) (hk := [[], [], [], [], [], [], [], [], [], []]) (by kernel_rfl) fun K hK => ?_
    simp only [go_sem, Nat.reduceAdd, Nat.reduceLT, Nat.reduceLeDiff, Nat.reduceEqDiff, Nat.reduceSub, Nat.reduceMul, Nat.reduceBEq, Nat.reduceBNe, Nat.reducePow, Nat.reduceDiv, Int.reduceLE, Int.reduceLT, Int.reduceToNat, Int.reduceNeg, Int.reduceAdd, Int.reduceSub, Int.reduceEq, reduceIte, reduceCtorEq, UInt8.reduceOfNat, sgE, List.length_map, le3, byt]
    repeat refine And.intro (by first | omega | assumption | (simp; done) | (simp; omega) | (simp +contextual; done) | (simp_all; done) | (simp_all; omega)) ?_
    refine hK _ ?_
    clear hK K
    refine WA.seq ?_
    refine WA.regionK ty_ok hs fun K hK => ?_
    simp only [go_sem, Nat.reduceAdd, Nat.reduceLT, Nat.reduceLeDiff, Nat.reduceEqDiff, Nat.reduceSub, Nat.reduceMul, Nat.reduceBEq, Nat.reduceBNe, Nat.reducePow, Nat.reduceDiv, Int.reduceLE, Int.reduceLT, Int.reduceToNat, Int.reduceNeg, Int.reduceAdd, Int.reduceSub, Int.reduceEq, reduceIte, reduceCtorEq, UInt8.reduceOfNat, List.length_map]
    repeat refine And.intro (by first | omega | assumption | (simp; done) | (simp; omega) | (simp +contextual; done) | (simp_all; done) | (simp_all; omega)) ?_
    refine hK _ ?_
    clear hK K
    refine WA.block ?_
    refine WA.loopW hX (fun k => if k = 3000 then 2128 else if k = 3008 then 2000 else k) ((fun (i : Nat) => ⟨[(1, .ptr 3008 0 0), (5, .sl 3000 1 0 (acE now l i).length), (25, .li 5 (l.map ptA)), (26, .lit (.int .i64 (l.length : Nat))), (27, .lit (.int .i64 (i : Nat)))], [(3000, ⟨.by_ (acE now l i), 0, false⟩), (3008, ⟨.li 2 [.agg [.li 5 (l.map ptA), .lit (.int .i64 now)]], 0, false⟩)], 4000, 73⟩ : _ → St)) (fun i => l.length - i) (fun i => i ≤ l.length) (i0 := 0) (Nat.zero_le _) (by simp only [go_sem, Int.natCast_add, Nat.reduceAdd, Nat.reduceLT, Nat.reduceLeDiff, Nat.reduceEqDiff, Nat.reduceSub, Nat.reduceMul, Nat.reduceBEq, Nat.reduceBNe, Nat.reducePow, Nat.reduceDiv, Int.reduceLE, Int.reduceLT, Int.reduceToNat, Int.reduceNeg, Int.reduceAdd, Int.reduceSub, Int.reduceEq, reduceIte, reduceCtorEq, UInt8.reduceOfNat, ht, Int.natCast_zero, z0] <;> (try and_intros) <;> (try omega)) fun i hi => ?_
    refine WA.regionK ty_ok hs fun K hK => ?_
    simp only [go_sem, Nat.reduceAdd, Nat.reduceLT, Nat.reduceLeDiff, Nat.reduceEqDiff, Nat.reduceSub, Nat.reduceMul, Nat.reduceBEq, Nat.reduceBNe, Nat.reducePow, Nat.reduceDiv, Int.reduceLE, Int.reduceLT, Int.reduceToNat, Int.reduceNeg, Int.reduceAdd, Int.reduceSub, Int.reduceEq, reduceIte, reduceCtorEq, UInt8.reduceOfNat, true_and]
    repeat refine And.intro (by first | omega | assumption | (simp; done) | (simp; omega) | (simp +contextual; done) | (simp_all; done) | (simp_all; omega)) ?_
    refine hK _ ?_
    clear hK K
    refine WA.seq ?_
    refine WA.cond rfl (fun h => ?_) (fun h => ?_)
    ·
      with_reducible refine WA.skipN ?_
      repeat first | with_reducible refine WN.t ?_ | with_reducible refine WN.b ?_
      have h : (i : Int) < (l.length : Nat) := by first | (simp only [Bool.and_eq_true, Bool.or_eq_true, Bool.not_eq_true', decide_eq_true_eq, decide_eq_false_iff_not, beq_iff_eq, bne_iff_ne, ne_eq, Bool.not_eq_eq_eq_not, Bool.not_true, Bool.not_false, beq_eq_false_iff_ne, bne_eq_false_iff_eq, Bool.and_eq_false_imp, Bool.or_eq_false_iff, Bool.cond_false_right, Bool.cond_true_left, Bool.cond_false_left, Bool.cond_true_right, gt_iff_lt, ge_iff_le, true_and] at h; first | exact h | omega) | omega | simpa using h
      have hi2 : i < l.length := by omega
      have g := pt_at hi2
      obtain ⟨w1, w2, w3, w4, w5⟩ := point_ok (v2 _ (List.getElem_mem hi2))
      have g1 := acE_len (now := now) v2 hi
      have g2 : encE l[i].key = 0 := by simp [encE, w2]
      have g3 : (encL l[i].key).length = 4 := by simp [encL, w2, length_beS]
      have g4 := acE_succ (now := now) hi2
      have g5 : List.take 4 (encL l[i].key) = encL l[i].key := List.take_of_length_le (by omega)
      have l3 : ∀ d, (le3 d).length = 3 := fun _ => rfl
      have t3 : ∀ d, List.take 3 (le3 d) = le3 d := fun _ => rfl
      have z1 : acE now l i ++ [UInt8.ofNat (IntKind.u8.wrap ↑l[i].h.length).toNat] ++ l[i].h ++ encL l[i].key ++ [UInt8.ofNat (IntKind.u8.wrap (l[i].rt.fdiv (2 ^ 8))).toNat, UInt8.ofNat (IntKind.u8.wrap l[i].rt).toNat] ++ le3 l[i].fr ++ le3 l[i].til = acE now l (i + 1) := by
        rw [g4]
        simp only [encPt, le2, byt, List.append_assoc]
        rfl
      have z2 : (acE now l (i + 1)).length = (acE now l i).length + 1 + l[i].h.length + 4 + 2 + 3 + 3 := by
        rw [← z1]
        simp only [List.length_append, List.length_cons, List.length_nil, g3, l3]
      refine WA.seq ?_
      refine WA.block ?_
      refine WA.regionK ty_ok hs fun K hK => ?_
      simp only [go_sem, Nat.reduceAdd, Nat.reduceLT, Nat.reduceLeDiff, Nat.reduceEqDiff, Nat.reduceSub, Nat.reduceMul, Nat.reduceBEq, Nat.reduceBNe, Nat.reducePow, Nat.reduceDiv, Int.reduceLE, Int.reduceLT, Int.reduceToNat, Int.reduceNeg, Int.reduceAdd, Int.reduceSub, Int.reduceEq, reduceIte, reduceCtorEq, UInt8.reduceOfNat, g, List.length_map]
      repeat refine And.intro (by first | omega | assumption | (simp; done) | (simp; omega) | (simp +contextual; done) | (simp_all; done) | (simp_all; omega)) ?_
      refine hK _ ?_
      clear hK K
      refine WA.regionK ty_ok hs fun K hK => ?_
      simp only [go_sem, Nat.reduceAdd, Nat.reduceLT, Nat.reduceLeDiff, Nat.reduceEqDiff, Nat.reduceSub, Nat.reduceMul, Nat.reduceBEq, Nat.reduceBNe, Nat.reducePow, Nat.reduceDiv, Int.reduceLE, Int.reduceLT, Int.reduceToNat, Int.reduceNeg, Int.reduceAdd, Int.reduceSub, Int.reduceEq, reduceIte, reduceCtorEq, UInt8.reduceOfNat, sgE, g2]
      repeat refine And.intro (by first | omega | assumption | (simp; done) | (simp; omega) | (simp +contextual; done) | (simp_all; done) | (simp_all; omega)) ?_
      refine hK _ ?_
      clear hK K
      refine WA.seq ?_
      refine WA.regionK ty_ok hs fun K hK => ?_
      simp only [go_sem, Nat.reduceAdd, Nat.reduceLT, Nat.reduceLeDiff, Nat.reduceEqDiff, Nat.reduceSub, Nat.reduceMul, Nat.reduceBEq, Nat.reduceBNe, Nat.reducePow, Nat.reduceDiv, Int.reduceLE, Int.reduceLT, Int.reduceToNat, Int.reduceNeg, Int.reduceAdd, Int.reduceSub, Int.reduceEq, reduceIte, reduceCtorEq, UInt8.reduceOfNat, true_and]
      repeat refine And.intro (by first | omega | assumption | (simp; done) | (simp; omega) | (simp +contextual; done) | (simp_all; done) | (simp_all; omega)) ?_
      refine hK _ ?_
      clear hK K
      refine WA.cond rfl (fun h => ?_) (fun h => ?_)
      ·
        exfalso
        revert h
        decide
      ·
        with_reducible refine WA.skipN ?_
        repeat first | with_reducible refine WN.t ?_ | with_reducible refine WN.b ?_
        refine WA.drawnH mixed_ ty_ok hs (tbl := [[], [], [1], [1, 2], [1, 2, 3], [1, 2, 3, 4], [0, 1, 2, 3, 4, 5], [], [7], [0, 1, 2, 3, 4, 5, 6, 7, 8], [], [0, 1, 2, 3, 4, 5, 6, 7, 8, 9, 10], [0, 1, 2, 3, 4, 5, 6, 7, 8, 9, 10, 11]]) (nb := [2, 6, 8, 9, 11]) (hk := [[], [], [], [], [], [], [], [3000], [3000], [], [3000, 4168], [], []]) (by kernel_rfl) fun K hK => ?_
        simp only [go_sem, Nat.reduceAdd, Nat.reduceLT, Nat.reduceLeDiff, Nat.reduceEqDiff, Nat.reduceSub, Nat.reduceMul, Nat.reduceBEq, Nat.reduceBNe, Nat.reducePow, Nat.reduceDiv, Int.reduceLE, Int.reduceLT, Int.reduceToNat, Int.reduceNeg, Int.reduceAdd, Int.reduceSub, Int.reduceEq, reduceIte, reduceCtorEq, UInt8.reduceOfNat, strB_size, strB_list, g3, g5]
        repeat refine And.intro (by first | omega | assumption | (simp; done) | (simp; omega) | (simp +contextual; done) | (simp_all; done) | (simp_all; omega)) ?_
        refine hK _ ?_
        clear hK K
        refine WA.regionK ty_ok hs fun K hK => ?_
        simp only [go_sem, Nat.reduceAdd, Nat.reduceLT, Nat.reduceLeDiff, Nat.reduceEqDiff, Nat.reduceSub, Nat.reduceMul, Nat.reduceBEq, Nat.reduceBNe, Nat.reducePow, Nat.reduceDiv, Int.reduceLE, Int.reduceLT, Int.reduceToNat, Int.reduceNeg, Int.reduceAdd, Int.reduceSub, Int.reduceEq, reduceIte, reduceCtorEq, UInt8.reduceOfNat, g3, g5]
        repeat refine And.intro (by first | omega | assumption | (simp; done) | (simp; omega) | (simp +contextual; done) | (simp_all; done) | (simp_all; omega)) ?_
        refine hK _ ?_
        clear hK K
        refine WA.drawn2 mixed_ ty_ok hs (tbl := [[], [], [1], [1, 2], [0, 1, 2, 3], [], [5], [0, 1, 2, 3, 4, 5, 6], [0, 1, 2, 3, 4, 5, 6, 7], [0, 1, 2, 3, 4, 5, 6, 7, 8]]) (nb := [2, 3, 4, 6, 7, 8]) (hk := [[], [], [], [], [], [4296], [4296], [], [], []]) (by kernel_rfl) fun K hK => ?_
        simp only [go_sem, Nat.reduceAdd, Nat.reduceLT, Nat.reduceLeDiff, Nat.reduceEqDiff, Nat.reduceSub, Nat.reduceMul, Nat.reduceBEq, Nat.reduceBNe, Nat.reducePow, Nat.reduceDiv, Int.reduceLE, Int.reduceLT, Int.reduceToNat, Int.reduceNeg, Int.reduceAdd, Int.reduceSub, Int.reduceEq, reduceIte, reduceCtorEq, UInt8.reduceOfNat, sgE, g3, g5, l3, t3]
        repeat refine And.intro (by first | omega | assumption | (simp; done) | (simp; omega) | (simp +contextual; done) | (simp_all; done) | (simp_all; omega)) ?_
        with_reducible refine hK _ (WN.mk ?_)
        clear hK K
        repeat first | with_reducible refine WN.t ?_ | with_reducible refine WN.b ?_
        refine WA.regionE ty_ok hs fun K hK => ?_
        simp only [go_sem, Nat.reduceAdd, Nat.reduceLT, Nat.reduceLeDiff, Nat.reduceEqDiff, Nat.reduceSub, Nat.reduceMul, Nat.reduceBEq, Nat.reduceBNe, Nat.reducePow, Nat.reduceDiv, Int.reduceLE, Int.reduceLT, Int.reduceToNat, Int.reduceNeg, Int.reduceAdd, Int.reduceSub, Int.reduceEq, reduceIte, reduceCtorEq, UInt8.reduceOfNat, true_and]
        repeat refine And.intro (by first | omega | assumption | (simp; done) | (simp; omega) | (simp +contextual; done) | (simp_all; done) | (simp_all; omega)) ?_
        refine hK _ (roundE hX (fun k => if k = 3000 then 4376 else k) (j := i + 1) (by omega) (by first | omega | (dsimp only; omega) | (simp; omega)) (by simp only [go_sem, Int.natCast_add, Nat.reduceAdd, Nat.reduceLT, Nat.reduceLeDiff, Nat.reduceEqDiff, Nat.reduceSub, Nat.reduceMul, Nat.reduceBEq, Nat.reduceBNe, Nat.reducePow, Nat.reduceDiv, Int.reduceLE, Int.reduceLT, Int.reduceToNat, Int.reduceNeg, Int.reduceAdd, Int.reduceSub, Int.reduceEq, reduceIte, reduceCtorEq, UInt8.reduceOfNat, ht, z1, z2] <;> (try and_intros) <;> (try omega)))
    ·
      with_reducible refine WA.exitX ?_
      repeat first | with_reducible refine WX.b ?_ | with_reducible refine WX.t ?_ | (with_reducible refine WX.n ?hne ?_; case hne => rfl)
      have h : ¬ (i : Int) < (l.length : Nat) := by first | (simp only [Bool.and_eq_true, Bool.or_eq_true, Bool.not_eq_true', decide_eq_true_eq, decide_eq_false_iff_not, beq_iff_eq, bne_iff_ne, ne_eq, Bool.not_eq_eq_eq_not, Bool.not_true, Bool.not_false, beq_eq_false_iff_ne, bne_eq_false_iff_eq, Bool.and_eq_false_imp, Bool.or_eq_false_iff, Bool.cond_false_right, Bool.cond_true_left, Bool.cond_false_left, Bool.cond_true_right, gt_iff_lt, ge_iff_le, true_and] at h; first | exact h | omega) | omega | simpa using h
      obtain rfl : i = l.length := by omega
      refine WA.regionK ty_ok hs fun K hK => ?_
      simp only [go_sem, Nat.reduceAdd, Nat.reduceLT, Nat.reduceLeDiff, Nat.reduceEqDiff, Nat.reduceSub, Nat.reduceMul, Nat.reduceBEq, Nat.reduceBNe, Nat.reducePow, Nat.reduceDiv, Int.reduceLE, Int.reduceLT, Int.reduceToNat, Int.reduceNeg, Int.reduceAdd, Int.reduceSub, Int.reduceEq, reduceIte, reduceCtorEq, UInt8.reduceOfNat, true_and]
      repeat refine And.intro (by first | omega | assumption | (simp; done) | (simp; omega) | (simp +contextual; done) | (simp_all; done) | (simp_all; omega)) ?_
      refine hK _ ?_
      clear hK K
      refine WA.retE ty_ok (xs := [.by_ (encS ⟨l, now⟩), .lit (.int .i64 (validE ⟨l, now⟩))]) (ls' := []) (rv := [.tmp 2, .tmp 3]) rfl hX (by decide) (fun _ => rfl) (fun _ _ h => h) ?_
      simp only [go_sem, Nat.reduceAdd, Nat.reduceLT, Nat.reduceLeDiff, Nat.reduceEqDiff, Nat.reduceSub, Nat.reduceMul, Nat.reduceBEq, Nat.reduceBNe, Nat.reducePow, Nat.reduceDiv, Int.reduceLE, Int.reduceLT, Int.reduceToNat, Int.reduceNeg, Int.reduceAdd, Int.reduceSub, Int.reduceEq, reduceIte, reduceCtorEq, UInt8.reduceOfNat, sbT, e, hv]
      all_goals (first | done | exact Nat.le_refl _ | (simp; done) | (and_intros <;> first | omega | exact Nat.le_refl _ | (simp; done) | (simp; omega)))
end Go.Proofs.YtgmmdijmlnehlaaDoor
