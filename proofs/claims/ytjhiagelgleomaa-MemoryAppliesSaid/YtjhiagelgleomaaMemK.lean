import Derived.Test.YtjhiagelgleomaaMemJ
namespace Go.Proofs.Ytjhiagelgleomaa
open Go.RowKit Go.TravelBase Go.TravelAbs
set_option linter.unusedVariables false
set_option linter.unusedSimpArgs false











/-! ### Apply: what it does -/
instance : Inhabited Wr := ⟨⟨0, 0, []⟩⟩
def setB (l : List UInt8) (at_ : Int) (i : Nat) (c : UInt8) : List UInt8 := if at_ ≤ l.length ∧ 0 ≤ at_ + i ∧ at_ + i < l.length then l.set (at_ + i).toNat c else l
def putB (p : List UInt8 × List UInt8) (y : Wr × Nat) : List UInt8 × List UInt8 :=
  if y.1.slot = 0 then (setB p.1 y.1.at_ y.2 (y.1.bytes.getD y.2 0), p.2) else if y.1.slot = 1 then (p.1, setB p.2 y.1.at_ y.2 (y.1.bytes.getD y.2 0)) else p
def sqI (x : Wr) (k : Nat) : List (Wr × Nat) := (List.range k).map fun i => (x, i)
def sq (ws : List Wr) : List (Wr × Nat) := ws.flatMap fun x => sqI x x.bytes.length
def apS (p : List UInt8 × List UInt8) (l : List (Wr × Nat)) : List UInt8 × List UInt8 := l.foldl putB p
theorem setB_length (l : List UInt8) (a : Int) (i : Nat) (c : UInt8) : (setB l a i c).length = l.length := by unfold setB; split <;> simp
theorem putB_length (p : List UInt8 × List UInt8) (y : Wr × Nat) : (putB p y).1.length = p.1.length ∧ (putB p y).2.length = p.2.length := by
  unfold putB
  split
  · exact ⟨setB_length _ _ _ _, rfl⟩
  · split
    · exact ⟨rfl, setB_length _ _ _ _⟩
    · exact ⟨rfl, rfl⟩
theorem apS_length : ∀ (l : List (Wr × Nat)) (p : List UInt8 × List UInt8), (apS p l).1.length = p.1.length ∧ (apS p l).2.length = p.2.length
  | [], p => ⟨rfl, rfl⟩
  | y :: l, p => by
    have h1 := apS_length l (putB p y)
    have h2 := putB_length p y
    exact ⟨h1.1.trans h2.1, h1.2.trans h2.2⟩
theorem apS_append (p : List UInt8 × List UInt8) (l r : List (Wr × Nat)) : apS p (l ++ r) = apS (apS p l) r := List.foldl_append
theorem sqI_length (x : Wr) (k : Nat) : (sqI x k).length = k := by simp [sqI]
theorem sqI_succ (x : Wr) (k : Nat) : sqI x (k + 1) = sqI x k ++ [(x, k)] := by simp [sqI, List.range_succ]
theorem sq_append (a b : List Wr) : sq (a ++ b) = sq a ++ sq b := List.flatMap_append
theorem sq_one (x : Wr) : sq [x] = sqI x x.bytes.length := by simp [sq]
theorem sq_length (ws : List Wr) : (sq ws).length = bS ws := by
  induction ws with
  | nil => rfl
  | cons x r ih =>
    have : sq (x :: r) = sqI x x.bytes.length ++ sq r := by simp [sq]
    rw [this, List.length_append, sqI_length, ih]
    simp [bS]
theorem sq_take {ws : List Wr} {i : Nat} (h : i < ws.length) : sq (ws.take (i + 1)) = sq (ws.take i) ++ sqI ws[i] ws[i].bytes.length := by
  rw [List.take_succ_eq_append_getElem h, sq_append, sq_one]
theorem sqI_take (x : Wr) {j k : Nat} (h : j ≤ k) : (sqI x k).take j = sqI x j := by
  unfold sqI
  rw [← List.map_take, List.take_range, Nat.min_eq_left h]
theorem sq_prefix {ws : List Wr} {i k : Nat} (h : i < ws.length) (hk : k ≤ ws[i].bytes.length) : (sq ws).take ((sq (ws.take i)).length + k) = sq (ws.take i) ++ sqI ws[i] k := by
  have e : sq ws = sq (ws.take i) ++ (sqI ws[i] ws[i].bytes.length ++ sq (ws.drop (i + 1))) := by
    have h1 : ws = ws.take (i + 1) ++ ws.drop (i + 1) := (List.take_append_drop _ _).symm
    have h2 : sq ws = sq (ws.take (i + 1) ++ ws.drop (i + 1)) := by rw [← h1]
    rw [h2, sq_append, sq_take h, List.append_assoc]
  rw [e, List.take_append, List.take_of_length_le (by omega), Nat.add_sub_cancel_left, List.take_append, sqI_take _ hk, sqI_length, Nat.sub_eq_zero_of_le hk]
  simp
/-- Behind which bytes the writes stop. -/
def apC (ws : List Wr) (cut : Int) : List (Wr × Nat) := if 0 ≤ cut ∧ cut < (sq ws).length then (sq ws).take cut.toNat else sq ws
def apR (a b : List UInt8) (ws : List Wr) (cut : Int) : List UInt8 × List UInt8 := apS (a, b) (apC ws cut)
def sg8 : Sg := fun f args ls =>
  match f, args, ls with
  | 36, [.by_ bs], [] => some (.fr (.by_ bs), [], bs.length ≤ 140737488355328)
  | _, _, _ => none
theorem sg8_ok : SgOK Try.prog sg8 := by
  intro f args ls r ls' vc h hvc
  unfold sg8 at h
  split at h <;> first | (simp only [Option.some.injEq, Prod.mk.injEq] at h; obtain ⟨rfl, rfl, rfl⟩ := h) | cases h
  exact ⟨fnOK Try.func36 (by decide) rfl, sclone_s _ hvc⟩
theorem setB_no {l : List UInt8} {z : Int} {i : Nat} {c : UInt8} (h : ¬(z ≤ l.length ∧ 0 ≤ z + i ∧ z + i < l.length)) : setB l z i c = l := if_neg h
theorem setB_yes {l : List UInt8} {z : Int} {i : Nat} {c : UInt8} (h : z ≤ l.length ∧ 0 ≤ z + i ∧ z + i < l.length) : setB l z i c = l.set (z + i).toNat c := if_pos h
theorem putB0 {p : List UInt8 × List UInt8} {x : Wr} {k : Nat} (h : x.slot = 0) : putB p (x, k) = (setB p.1 x.at_ k (x.bytes.getD k 0), p.2) := if_pos h
theorem putB1 {p : List UInt8 × List UInt8} {x : Wr} {k : Nat} (h : x.slot = 1) : putB p (x, k) = (p.1, setB p.2 x.at_ k (x.bytes.getD k 0)) := by
  have h0 : ¬ x.slot = 0 := by omega
  exact (if_neg h0).trans (if_pos h)
theorem putBn {p : List UInt8 × List UInt8} {x : Wr} {k : Nat} (h0 : ¬ x.slot = 0) (h1 : ¬ x.slot = 1) : putB p (x, k) = p := (if_neg h0).trans (if_neg h1)
theorem apC_all {ws : List Wr} {cut : Int} (h : ¬(0 ≤ cut ∧ cut < (bS ws : Nat))) : apC ws cut = sq ws := by
  unfold apC
  rw [sq_length, if_neg h]
theorem apC_at {ws : List Wr} {i k : Nat} (h : i < ws.length) (hk : k < ws[i].bytes.length) : apC ws ((bS (ws.take i) + k : Nat) : Int) = sq (ws.take i) ++ sqI ws[i] k := by
  have h1 := bS_take h
  have h2 := bS_le ws (i + 1)
  unfold apC
  rw [if_pos (by rw [sq_length]; omega), Int.toNat_natCast, ← sq_length (ws.take i), sq_prefix h (by omega)]
set_option maxHeartbeats 4000000 in
theorem apply_s (a b : List UInt8) (ws : List Wr) (cut : Int) (ha : a.length ≤ 1000000000) (hb : b.length ≤ 1000000000) (hw : bS ws ≤ 1000000000) (hat : ∀ x ∈ ws, -9223372036854775808 ≤ x.at_ ∧ x.at_ ≤ 9223372036854775807) : FnS Try.prog 23 [.agg [.by_ a, .by_ b], .li 3 (ws.map wA), .lit (.int .i64 cut)] [] (.agg [.by_ (apR a b ws cut).1, .by_ (apR a b ws cut).2]) [] := by
  have hs := sg8_ok
  refine FnS.len fun hL _ => ?_
  have hL := hL 1 3 _ rfl
  rw [List.length_map] at hL
  simp only [maxLen] at hL
  refine FnS.of Try.func23 rfl (N := 90) rfl (by simp) (by simp) fun X hX => ?_
  simp only [tmArgs, lentH, Nat.reduceAdd]
  refine WA.regionK ty_ok hs fun K hK => ?_
  simp only [go_sem, Nat.reduceAdd, Nat.reduceLT, Nat.reduceLeDiff, Nat.reduceEqDiff, Nat.reduceSub, Nat.reduceMul, Nat.reduceBEq, Nat.reduceBNe, Nat.reducePow, Nat.reduceDiv, Int.reduceLE, Int.reduceLT, Int.reduceToNat, Int.reduceNeg, Int.reduceAdd, Int.reduceSub, Int.reduceEq, reduceIte, reduceCtorEq, UInt8.reduceOfNat, sg8]
  first
  | refine hK _ ?_
  | refine And.intro (by first | omega | (simp; done) | (simp; omega) | (simp +contextual; done) | (simp_all; done) | (simp_all; omega)) (hK _ ?_)
  clear hK K
  refine WA.drawnK mixed_ ty_ok hs (tbl := [[], [0], [0, 1], [0, 1, 2], [], [4], [4, 5], [0, 1, 2, 3, 4, 5, 6], [0, 1, 2, 3, 4, 5, 6, 7], [0, 1, 2, 3, 4, 5, 6, 7, 8], [], [0, 1, 2, 3, 4, 5, 6, 7, 8, 9, 10]]) (nb := [2, 3, 6, 7, 11]) (by kernel_rfl) fun K hK => ?_
  simp only [go_sem, Nat.reduceAdd, Nat.reduceLT, Nat.reduceLeDiff, Nat.reduceEqDiff, Nat.reduceSub, Nat.reduceMul, Nat.reduceBEq, Nat.reduceBNe, Nat.reducePow, Nat.reduceDiv, Int.reduceLE, Int.reduceLT, Int.reduceToNat, Int.reduceNeg, Int.reduceAdd, Int.reduceSub, Int.reduceEq, reduceIte, reduceCtorEq, UInt8.reduceOfNat, sg8]
  first
  | refine hK _ ?_
  | refine And.intro (by first | omega | (simp; done) | (simp; omega) | (simp +contextual; done) | (simp_all; done) | (simp_all; omega)) (hK _ ?_)
  clear hK K
  refine WA.regionK ty_ok hs fun K hK => ?_
  simp only [go_sem, Nat.reduceAdd, Nat.reduceLT, Nat.reduceLeDiff, Nat.reduceEqDiff, Nat.reduceSub, Nat.reduceMul, Nat.reduceBEq, Nat.reduceBNe, Nat.reducePow, Nat.reduceDiv, Int.reduceLE, Int.reduceLT, Int.reduceToNat, Int.reduceNeg, Int.reduceAdd, Int.reduceSub, Int.reduceEq, reduceIte, reduceCtorEq, UInt8.reduceOfNat, sg8]
  first
  | refine hK _ ?_
  | refine And.intro (by first | omega | (simp; done) | (simp; omega) | (simp +contextual; done) | (simp_all; done) | (simp_all; omega)) (hK _ ?_)
  clear hK K
  refine WA.seq ?_
  refine WA.regionK ty_ok hs fun K hK => ?_
  simp only [go_sem, Nat.reduceAdd, Nat.reduceLT, Nat.reduceLeDiff, Nat.reduceEqDiff, Nat.reduceSub, Nat.reduceMul, Nat.reduceBEq, Nat.reduceBNe, Nat.reducePow, Nat.reduceDiv, Int.reduceLE, Int.reduceLT, Int.reduceToNat, Int.reduceNeg, Int.reduceAdd, Int.reduceSub, Int.reduceEq, reduceIte, reduceCtorEq, UInt8.reduceOfNat, sg8]
  first
  | refine hK _ ?_
  | refine And.intro (by first | omega | (simp; done) | (simp; omega) | (simp +contextual; done) | (simp_all; done) | (simp_all; omega)) (hK _ ?_)
  clear hK K
  refine WA.block ?_
  refine WA.loopW hX (fun k => k) ((fun i => ⟨[(26, .lit (.int .i64 (i : Nat))), (25, .lit (.int .i64 (ws.length : Nat))), (24, .li 3 (ws.map wA)), (8, .lit (.int .i64 (bS (ws.take i) : Nat))), (7, .ptr 2096 0 0), (6, .ptr 2008 0 0), (2, .lit (.int .i64 cut))], [(2096, ⟨.li 2 [.agg [.sl 2040 1 0 a.length, .sl 2072 1 0 b.length]], 0, false⟩), (2072, ⟨.by_ (apS (a, b) (sq (ws.take i))).2, 0, false⟩), (2040, ⟨.by_ (apS (a, b) (sq (ws.take i))).1, 0, false⟩), (2008, ⟨.li 2 [.agg [.lit (.slice none 0 0), .lit (.slice none 0 0)]], 0, false⟩)], 3000, 90⟩ : Nat → St)) (fun i => ws.length - i) (fun i => i ≤ ws.length ∧ ¬(0 ≤ cut ∧ cut < (bS (ws.take i) : Nat))) (i0 := 0) (⟨by omega, by rw [List.take_zero]; show ¬(0 ≤ cut ∧ cut < 0); omega⟩) (by simp only [go_sem, Int.natCast_add, Nat.reduceAdd, Nat.reduceLT, Nat.reduceLeDiff, Nat.reduceEqDiff, Nat.reduceSub, Nat.reduceMul, Nat.reduceBEq, Nat.reduceBNe, Nat.reducePow, Nat.reduceDiv, Int.reduceLE, Int.reduceLT, Int.reduceToNat, Int.reduceNeg, Int.reduceAdd, Int.reduceSub, Int.reduceEq, reduceIte, reduceCtorEq, UInt8.reduceOfNat, Tr_wr, List.take_zero, bS, List.map_nil, List.sum_nil, sq, apS, List.flatMap_nil, List.foldl_nil] <;> (try and_intros) <;> (try omega)) fun i hi => ?_
  obtain ⟨hi, hcut⟩ := hi
  refine WA.regionK ty_ok hs fun K hK => ?_
  simp only [go_sem, Nat.reduceAdd, Nat.reduceLT, Nat.reduceLeDiff, Nat.reduceEqDiff, Nat.reduceSub, Nat.reduceMul, Nat.reduceBEq, Nat.reduceBNe, Nat.reducePow, Nat.reduceDiv, Int.reduceLE, Int.reduceLT, Int.reduceToNat, Int.reduceNeg, Int.reduceAdd, Int.reduceSub, Int.reduceEq, reduceIte, reduceCtorEq, UInt8.reduceOfNat, sg8]
  first
  | refine hK _ ?_
  | refine And.intro (by first | omega | (simp; done) | (simp; omega) | (simp +contextual; done) | (simp_all; done) | (simp_all; omega)) (hK _ ?_)
  clear hK K
  refine WA.seq ?_
  refine WA.cond rfl (fun h => ?_) (fun h => ?_)
  ·
    with_reducible refine WA.skipN ?_
    repeat first | with_reducible refine WN.t ?_ | with_reducible refine WN.b ?_
    have h6 : i < ws.length := by have := of_decide_eq_true h; omega
    have g1 := wr_at h6
    have g2 := bS_take h6
    have g3 := bS_le ws (i + 1)
    have g4 := sq_take h6
    have g5 := hat _ (List.getElem_mem h6)
    have g6 := fun k => apC_at (k := k) h6
    clear h
    obtain ⟨x, hx⟩ : ∃ x, ws[i] = x := ⟨_, rfl⟩
    rw [hx] at g1 g2 g4 g5
    simp only [hx] at g6
    refine WA.seq ?_
    refine WA.block ?_
    refine WA.regionK ty_ok hs fun K hK => ?_
    simp only [go_sem, Nat.reduceAdd, Nat.reduceLT, Nat.reduceLeDiff, Nat.reduceEqDiff, Nat.reduceSub, Nat.reduceMul, Nat.reduceBEq, Nat.reduceBNe, Nat.reducePow, Nat.reduceDiv, Int.reduceLE, Int.reduceLT, Int.reduceToNat, Int.reduceNeg, Int.reduceAdd, Int.reduceSub, Int.reduceEq, reduceIte, reduceCtorEq, UInt8.reduceOfNat, sg8, g1]
    first
    | refine hK _ ?_
    | refine And.intro (by first | omega | (simp; done) | (simp; omega) | (simp +contextual; done) | (simp_all; done) | (simp_all; omega)) (hK _ ?_)
    clear hK K
    refine WA.regionK ty_ok hs fun K hK => ?_
    simp only [go_sem, Nat.reduceAdd, Nat.reduceLT, Nat.reduceLeDiff, Nat.reduceEqDiff, Nat.reduceSub, Nat.reduceMul, Nat.reduceBEq, Nat.reduceBNe, Nat.reducePow, Nat.reduceDiv, Int.reduceLE, Int.reduceLT, Int.reduceToNat, Int.reduceNeg, Int.reduceAdd, Int.reduceSub, Int.reduceEq, reduceIte, reduceCtorEq, UInt8.reduceOfNat, sg8]
    first
    | refine hK _ ?_
    | refine And.intro (by first | omega | (simp; done) | (simp; omega) | (simp +contextual; done) | (simp_all; done) | (simp_all; omega)) (hK _ ?_)
    clear hK K
    refine WA.block ?_
    refine WA.loopW hX (fun k => k) ((fun k => ⟨[(10, .ptr 3024 0 0), (31, .by_ x.bytes), (32, .lit (.int .i64 (x.bytes.length : Nat))), (33, .lit (.int .i64 (k : Nat))), (26, .lit (.int .i64 (i : Nat))), (25, .lit (.int .i64 (ws.length : Nat))), (24, .li 3 (ws.map wA)), (8, .lit (.int .i64 (bS (ws.take i) + k : Nat))), (7, .ptr 2096 0 0), (6, .ptr 2008 0 0), (2, .lit (.int .i64 cut))], [(3024, ⟨.li 3 [.agg [.lit (.int .i64 x.slot), .lit (.int .i64 x.at_), .by_ x.bytes]], 0, false⟩), (2096, ⟨.li 2 [.agg [.sl 2040 1 0 a.length, .sl 2072 1 0 b.length]], 0, false⟩), (2072, ⟨.by_ (apS (a, b) (sq (ws.take i) ++ sqI x k)).2, 0, false⟩), (2040, ⟨.by_ (apS (a, b) (sq (ws.take i) ++ sqI x k)).1, 0, false⟩), (2008, ⟨.li 2 [.agg [.lit (.slice none 0 0), .lit (.slice none 0 0)]], 0, false⟩)], 5000, 90⟩ : Nat → St)) (fun k => x.bytes.length - k) (fun k => k ≤ x.bytes.length ∧ ¬(0 ≤ cut ∧ cut < (bS (ws.take i) + k : Nat))) (i0 := 0) (⟨by omega, hcut⟩) (by simp only [go_sem, Int.natCast_add, Nat.reduceAdd, Nat.reduceLT, Nat.reduceLeDiff, Nat.reduceEqDiff, Nat.reduceSub, Nat.reduceMul, Nat.reduceBEq, Nat.reduceBNe, Nat.reducePow, Nat.reduceDiv, Int.reduceLE, Int.reduceLT, Int.reduceToNat, Int.reduceNeg, Int.reduceAdd, Int.reduceSub, Int.reduceEq, reduceIte, reduceCtorEq, UInt8.reduceOfNat, Tr_wr, sqI, List.range_zero, List.map_nil, List.append_nil, Nat.add_zero] <;> (try and_intros) <;> (try omega)) fun k hk => ?_
    obtain ⟨hk, hcut2⟩ := hk
    refine WA.regionK ty_ok hs fun K hK => ?_
    simp only [go_sem, Nat.reduceAdd, Nat.reduceLT, Nat.reduceLeDiff, Nat.reduceEqDiff, Nat.reduceSub, Nat.reduceMul, Nat.reduceBEq, Nat.reduceBNe, Nat.reducePow, Nat.reduceDiv, Int.reduceLE, Int.reduceLT, Int.reduceToNat, Int.reduceNeg, Int.reduceAdd, Int.reduceSub, Int.reduceEq, reduceIte, reduceCtorEq, UInt8.reduceOfNat, sg8]
    first
    | refine hK _ ?_
    | refine And.intro (by first | omega | (simp; done) | (simp; omega) | (simp +contextual; done) | (simp_all; done) | (simp_all; omega)) (hK _ ?_)
    clear hK K
    refine WA.seq ?_
    refine WA.cond rfl (fun h => ?_) (fun h => ?_)
    ·
      with_reducible refine WA.skipN ?_
      repeat first | with_reducible refine WN.t ?_ | with_reducible refine WN.b ?_
      have h7 : k < x.bytes.length := by have := of_decide_eq_true h; omega
      have l1 := (apS_length (sq (ws.take i) ++ sqI x k) (a, b)).1
      have l2 := (apS_length (sq (ws.take i) ++ sqI x k) (a, b)).2
      have t1 := List.take_of_length_le (Nat.le_of_eq l1)
      have t2 := List.take_of_length_le (Nat.le_of_eq l2)
      simp only at l1 l2 t1 t2
      have hp : apS (a, b) (sq (ws.take i) ++ sqI x (k + 1)) = putB (apS (a, b) (sq (ws.take i) ++ sqI x k)) (x, k) := by
        rw [sqI_succ, ← List.append_assoc, apS_append]
        rfl
      clear h
      refine WA.seq ?_
      refine WA.block ?_
      refine WA.regionK ty_ok hs fun K hK => ?_
      simp only [go_sem, Nat.reduceAdd, Nat.reduceLT, Nat.reduceLeDiff, Nat.reduceEqDiff, Nat.reduceSub, Nat.reduceMul, Nat.reduceBEq, Nat.reduceBNe, Nat.reducePow, Nat.reduceDiv, Int.reduceLE, Int.reduceLT, Int.reduceToNat, Int.reduceNeg, Int.reduceAdd, Int.reduceSub, Int.reduceEq, reduceIte, reduceCtorEq, UInt8.reduceOfNat, sg8, h7]
      first
      | refine hK _ ?_
      | refine And.intro (by first | omega | (simp; done) | (simp; omega) | (simp +contextual; done) | (simp_all; done) | (simp_all; omega)) (hK _ ?_)
      clear hK K
      refine WA.seq ?_
      refine WA.regionK ty_ok hs fun K hK => ?_
      simp only [go_sem, Nat.reduceAdd, Nat.reduceLT, Nat.reduceLeDiff, Nat.reduceEqDiff, Nat.reduceSub, Nat.reduceMul, Nat.reduceBEq, Nat.reduceBNe, Nat.reducePow, Nat.reduceDiv, Int.reduceLE, Int.reduceLT, Int.reduceToNat, Int.reduceNeg, Int.reduceAdd, Int.reduceSub, Int.reduceEq, reduceIte, reduceCtorEq, UInt8.reduceOfNat, sg8]
      first
      | refine hK _ ?_
      | refine And.intro (by first | omega | (simp; done) | (simp; omega) | (simp +contextual; done) | (simp_all; done) | (simp_all; omega)) (hK _ ?_)
      clear hK K
      refine WA.cond rfl (fun h => ?_) (fun h => ?_)
      ·
        have hc := eq_of_beq h
        have e := g6 k h7
        rw [hc] at e
        refine WA.regionK ty_ok hs fun K hK => ?_
        simp only [go_sem, Nat.reduceAdd, Nat.reduceLT, Nat.reduceLeDiff, Nat.reduceEqDiff, Nat.reduceSub, Nat.reduceMul, Nat.reduceBEq, Nat.reduceBNe, Nat.reducePow, Nat.reduceDiv, Int.reduceLE, Int.reduceLT, Int.reduceToNat, Int.reduceNeg, Int.reduceAdd, Int.reduceSub, Int.reduceEq, reduceIte, reduceCtorEq, UInt8.reduceOfNat, sg8]
        first
        | refine hK _ ?_
        | refine And.intro (by first | omega | (simp; done) | (simp; omega) | (simp +contextual; done) | (simp_all; done) | (simp_all; omega)) (hK _ ?_)
        clear hK K
        refine WA.retE ty_ok (xs := [.agg [.by_ (apR a b ws cut).1, .by_ (apR a b ws cut).2]]) (ls' := []) (rv := [.cell 6 25]) rfl hX (by decide) (fun _ => rfl) (fun _ _ h => h) ?_
        simp only [go_sem, Nat.reduceAdd, Nat.reduceLT, Nat.reduceLeDiff, Nat.reduceEqDiff, Nat.reduceSub, Nat.reduceMul, Nat.reduceBEq, Nat.reduceBNe, Nat.reducePow, Nat.reduceDiv, Int.reduceLE, Int.reduceLT, Int.reduceToNat, Int.reduceNeg, Int.reduceAdd, Int.reduceSub, Int.reduceEq, reduceIte, reduceCtorEq, UInt8.reduceOfNat, sbT, apR, e, l1, l2, t1, t2, Nat.le_refl]
      ·
        with_reducible refine WA.skipN ?_
        repeat first | with_reducible refine WN.t ?_ | with_reducible refine WN.b ?_
        have hc : ¬ ((bS (ws.take i) + k : Nat) : Int) = cut := by intro q; rw [q] at h; simp at h
        refine WA.regionK ty_ok hs fun K hK => ?_
        simp only [go_sem, Nat.reduceAdd, Nat.reduceLT, Nat.reduceLeDiff, Nat.reduceEqDiff, Nat.reduceSub, Nat.reduceMul, Nat.reduceBEq, Nat.reduceBNe, Nat.reducePow, Nat.reduceDiv, Int.reduceLE, Int.reduceLT, Int.reduceToNat, Int.reduceNeg, Int.reduceAdd, Int.reduceSub, Int.reduceEq, reduceIte, reduceCtorEq, UInt8.reduceOfNat, sg8]
        first
        | refine hK _ ?_
        | refine And.intro (by first | omega | (simp; done) | (simp; omega) | (simp +contextual; done) | (simp_all; done) | (simp_all; omega)) (hK _ ?_)
        clear hK K
        refine WA.seq ?_
        rcases (show x.slot = 0 ∨ x.slot = 1 ∨ x.slot < 0 ∨ x.slot ≥ 2 by omega) with hs0 | hs0 | hs0 | hs0
        ·
          refine WA.drawnK mixed_ ty_ok hs (tbl := [[], [0], [0, 1], [0, 1, 2], [0, 1, 2, 3], [0, 1, 2, 3, 4], [0, 1, 2, 3, 4, 5], [0, 1, 2, 3, 4, 5, 6], [0, 1, 2, 3, 4, 5, 6, 7], [0, 1, 2, 3, 4, 5, 6, 7, 8], [0, 1, 2, 3, 4, 5, 6, 7, 8, 9], [0, 1, 2, 3, 4, 5, 6, 7, 8], [0, 1, 2, 3, 4, 5, 6, 7, 8, 11], [0, 1, 2, 3, 4, 5, 6, 7, 8], [0, 1, 2, 3, 4, 5, 6, 7, 8, 11, 12, 13], [0, 1, 2, 3, 4, 5, 6, 7, 8, 11, 12, 13, 14], [0, 1, 2, 3, 4, 5, 6, 7, 8, 11, 12, 13, 14, 15], [0, 1, 2, 3, 4, 5, 6, 7, 8, 9, 10, 11, 12, 13, 14, 15, 16], [0, 1, 2, 3, 4, 5, 6, 7, 8, 9, 10, 11, 12, 13, 14, 15, 16, 17]]) (nb := [1, 5, 10, 12, 15]) (by kernel_rfl) fun K hK => ?_
          simp only [go_sem, Nat.reduceAdd, Nat.reduceLT, Nat.reduceLeDiff, Nat.reduceEqDiff, Nat.reduceSub, Nat.reduceMul, Nat.reduceBEq, Nat.reduceBNe, Nat.reducePow, Nat.reduceDiv, Int.reduceLE, Int.reduceLT, Int.reduceToNat, Int.reduceNeg, Int.reduceAdd, Int.reduceSub, Int.reduceEq, reduceIte, reduceCtorEq, UInt8.reduceOfNat, sg8, hs0]
          first
          | refine hK _ ?_
          | refine And.intro (by first | omega | (simp; done) | (simp; omega) | (simp +contextual; done) | (simp_all; done) | (simp_all; omega)) (hK _ ?_)
          clear hK K
          refine WA.cond rfl (fun h => ?_) (fun h => ?_)
          ·
            have h8 := of_decide_eq_true h
            have hq : putB (apS (a, b) (sq (ws.take i) ++ sqI x k)) (x, k) = (apS (a, b) (sq (ws.take i) ++ sqI x k)) := by
              rw [putB0 hs0, setB_no (by rw [l1]; omega)]
            rw [hq] at hp
            with_reducible refine WA.exitX ?_
            repeat first | with_reducible refine WX.b ?_ | with_reducible refine WX.t ?_ | (with_reducible refine WX.n ?hne ?_; case hne => rfl)
            refine WA.regionE ty_ok hs fun K hK => ?_
            simp only [go_sem, Nat.reduceAdd, Nat.reduceLT, Nat.reduceLeDiff, Nat.reduceEqDiff, Nat.reduceSub, Nat.reduceMul, Nat.reduceBEq, Nat.reduceBNe, Nat.reducePow, Nat.reduceDiv, Int.reduceLE, Int.reduceLT, Int.reduceToNat, Int.reduceNeg, Int.reduceAdd, Int.reduceSub, Int.reduceEq, reduceIte, reduceCtorEq, UInt8.reduceOfNat, sg8]
            refine And.intro (by omega) ?_
            refine hK _ (roundE hX (fun k => k) (j := k + 1) (⟨by omega, fun q => hcut2 ⟨q.1, by omega⟩⟩) (by omega) (by simp only [go_sem, Int.natCast_add, Nat.reduceAdd, Nat.reduceLT, Nat.reduceLeDiff, Nat.reduceEqDiff, Nat.reduceSub, Nat.reduceMul, Nat.reduceBEq, Nat.reduceBNe, Nat.reducePow, Nat.reduceDiv, Int.reduceLE, Int.reduceLT, Int.reduceToNat, Int.reduceNeg, Int.reduceAdd, Int.reduceSub, Int.reduceEq, reduceIte, reduceCtorEq, UInt8.reduceOfNat, Tr_wr, hp] <;> (try and_intros) <;> (try omega)))
          ·
            have h8 := of_decide_eq_false h
            with_reducible refine WA.skipN ?_
            repeat first | with_reducible refine WN.t ?_ | with_reducible refine WN.b ?_
            refine WA.regionK ty_ok hs fun K hK => ?_
            simp only [go_sem, Nat.reduceAdd, Nat.reduceLT, Nat.reduceLeDiff, Nat.reduceEqDiff, Nat.reduceSub, Nat.reduceMul, Nat.reduceBEq, Nat.reduceBNe, Nat.reducePow, Nat.reduceDiv, Int.reduceLE, Int.reduceLT, Int.reduceToNat, Int.reduceNeg, Int.reduceAdd, Int.reduceSub, Int.reduceEq, reduceIte, reduceCtorEq, UInt8.reduceOfNat, sg8]
            first
            | refine hK _ ?_
            | refine And.intro (by first | omega | (simp; done) | (simp; omega) | (simp +contextual; done) | (simp_all; done) | (simp_all; omega)) (hK _ ?_)
            clear hK K
            refine WA.regionK ty_ok hs fun K hK => ?_
            simp only [go_sem, Nat.reduceAdd, Nat.reduceLT, Nat.reduceLeDiff, Nat.reduceEqDiff, Nat.reduceSub, Nat.reduceMul, Nat.reduceBEq, Nat.reduceBNe, Nat.reducePow, Nat.reduceDiv, Int.reduceLE, Int.reduceLT, Int.reduceToNat, Int.reduceNeg, Int.reduceAdd, Int.reduceSub, Int.reduceEq, reduceIte, reduceCtorEq, UInt8.reduceOfNat, sg8, hs0]
            first
            | refine hK _ ?_
            | refine And.intro (by first | omega | (simp; done) | (simp; omega) | (simp +contextual; done) | (simp_all; done) | (simp_all; omega)) (hK _ ?_)
            clear hK K
            refine WA.cond rfl (fun h => ?_) (fun h => ?_)
            ·
              have h9 : 0 ≤ x.at_ + (k : Int) ∧ x.at_ + (k : Int) < (a.length : Nat) := by
                cases q1 : decide (x.at_ + (k : Int) ≥ 0) with
                | false => rw [q1] at h; cases h
                | true =>
                  rw [q1] at h
                  exact ⟨of_decide_eq_true q1, of_decide_eq_true h⟩
              have hq : putB (apS (a, b) (sq (ws.take i) ++ sqI x k)) (x, k) = ((apS (a, b) (sq (ws.take i) ++ sqI x k)).1.set (x.at_ + (k : Int)).toNat (x.bytes.getD k 0), (apS (a, b) (sq (ws.take i) ++ sqI x k)).2) := by
                rw [putB0 hs0, setB_yes (by rw [l1]; omega)]
              rw [hq] at hp
              refine WA.regionE ty_ok hs fun K hK => ?_
              simp only [go_sem, Nat.reduceAdd, Nat.reduceLT, Nat.reduceLeDiff, Nat.reduceEqDiff, Nat.reduceSub, Nat.reduceMul, Nat.reduceBEq, Nat.reduceBNe, Nat.reducePow, Nat.reduceDiv, Int.reduceLE, Int.reduceLT, Int.reduceToNat, Int.reduceNeg, Int.reduceAdd, Int.reduceSub, Int.reduceEq, reduceIte, reduceCtorEq, UInt8.reduceOfNat, sg8, hs0, l1]
              refine And.intro (by omega) ?_
              with_reducible refine hK _ (WN.mk ?_)
              clear hK K
              repeat first | with_reducible refine WN.t ?_ | with_reducible refine WN.b ?_
              refine WA.regionE ty_ok hs fun K hK => ?_
              simp only [go_sem, Nat.reduceAdd, Nat.reduceLT, Nat.reduceLeDiff, Nat.reduceEqDiff, Nat.reduceSub, Nat.reduceMul, Nat.reduceBEq, Nat.reduceBNe, Nat.reducePow, Nat.reduceDiv, Int.reduceLE, Int.reduceLT, Int.reduceToNat, Int.reduceNeg, Int.reduceAdd, Int.reduceSub, Int.reduceEq, reduceIte, reduceCtorEq, UInt8.reduceOfNat, sg8]
              refine And.intro (by omega) ?_
              refine hK _ (roundE hX (fun k => k) (j := k + 1) (⟨by omega, fun q => hcut2 ⟨q.1, by omega⟩⟩) (by omega) (by simp only [go_sem, Int.natCast_add, Nat.reduceAdd, Nat.reduceLT, Nat.reduceLeDiff, Nat.reduceEqDiff, Nat.reduceSub, Nat.reduceMul, Nat.reduceBEq, Nat.reduceBNe, Nat.reducePow, Nat.reduceDiv, Int.reduceLE, Int.reduceLT, Int.reduceToNat, Int.reduceNeg, Int.reduceAdd, Int.reduceSub, Int.reduceEq, reduceIte, reduceCtorEq, UInt8.reduceOfNat, Tr_wr, hp] <;> (try and_intros) <;> (try omega)))
            ·
              have h9 : ¬(0 ≤ x.at_ + (k : Int) ∧ x.at_ + (k : Int) < (a.length : Nat)) := by
                intro q
                rw [decide_eq_true (show x.at_ + (k : Int) ≥ 0 from q.1)] at h
                have := of_decide_eq_false h
                omega
              have hq : putB (apS (a, b) (sq (ws.take i) ++ sqI x k)) (x, k) = (apS (a, b) (sq (ws.take i) ++ sqI x k)) := by
                rw [putB0 hs0, setB_no (by rw [l1]; omega)]
              rw [hq] at hp
              with_reducible refine WA.skipN ?_
              repeat first | with_reducible refine WN.t ?_ | with_reducible refine WN.b ?_
              refine WA.regionE ty_ok hs fun K hK => ?_
              simp only [go_sem, Nat.reduceAdd, Nat.reduceLT, Nat.reduceLeDiff, Nat.reduceEqDiff, Nat.reduceSub, Nat.reduceMul, Nat.reduceBEq, Nat.reduceBNe, Nat.reducePow, Nat.reduceDiv, Int.reduceLE, Int.reduceLT, Int.reduceToNat, Int.reduceNeg, Int.reduceAdd, Int.reduceSub, Int.reduceEq, reduceIte, reduceCtorEq, UInt8.reduceOfNat, sg8]
              refine And.intro (by omega) ?_
              refine hK _ (roundE hX (fun k => k) (j := k + 1) (⟨by omega, fun q => hcut2 ⟨q.1, by omega⟩⟩) (by omega) (by simp only [go_sem, Int.natCast_add, Nat.reduceAdd, Nat.reduceLT, Nat.reduceLeDiff, Nat.reduceEqDiff, Nat.reduceSub, Nat.reduceMul, Nat.reduceBEq, Nat.reduceBNe, Nat.reducePow, Nat.reduceDiv, Int.reduceLE, Int.reduceLT, Int.reduceToNat, Int.reduceNeg, Int.reduceAdd, Int.reduceSub, Int.reduceEq, reduceIte, reduceCtorEq, UInt8.reduceOfNat, Tr_wr, hp] <;> (try and_intros) <;> (try omega)))
        ·
          refine WA.drawnK mixed_ ty_ok hs (tbl := [[], [0], [0, 1], [0, 1, 2], [0, 1, 2, 3], [0, 1, 2, 3, 4], [0, 1, 2, 3, 4, 5], [0, 1, 2, 3, 4, 5, 6], [0, 1, 2, 3, 4, 5, 6, 7], [0, 1, 2, 3, 4, 5, 6, 7, 8], [0, 1, 2, 3, 4, 5, 6, 7, 8, 9], [0, 1, 2, 3, 4, 5, 6, 7, 8], [0, 1, 2, 3, 4, 5, 6, 7, 8, 11], [0, 1, 2, 3, 4, 5, 6, 7, 8], [0, 1, 2, 3, 4, 5, 6, 7, 8, 11, 12, 13], [0, 1, 2, 3, 4, 5, 6, 7, 8, 11, 12, 13, 14], [0, 1, 2, 3, 4, 5, 6, 7, 8, 11, 12, 13, 14, 15], [0, 1, 2, 3, 4, 5, 6, 7, 8, 9, 10, 11, 12, 13, 14, 15, 16], [0, 1, 2, 3, 4, 5, 6, 7, 8, 9, 10, 11, 12, 13, 14, 15, 16, 17]]) (nb := [1, 5, 10, 12, 15]) (by kernel_rfl) fun K hK => ?_
          simp only [go_sem, Nat.reduceAdd, Nat.reduceLT, Nat.reduceLeDiff, Nat.reduceEqDiff, Nat.reduceSub, Nat.reduceMul, Nat.reduceBEq, Nat.reduceBNe, Nat.reducePow, Nat.reduceDiv, Int.reduceLE, Int.reduceLT, Int.reduceToNat, Int.reduceNeg, Int.reduceAdd, Int.reduceSub, Int.reduceEq, reduceIte, reduceCtorEq, UInt8.reduceOfNat, sg8, hs0]
          first
          | refine hK _ ?_
          | refine And.intro (by first | omega | (simp; done) | (simp; omega) | (simp +contextual; done) | (simp_all; done) | (simp_all; omega)) (hK _ ?_)
          clear hK K
          refine WA.cond rfl (fun h => ?_) (fun h => ?_)
          ·
            have h8 := of_decide_eq_true h
            have hq : putB (apS (a, b) (sq (ws.take i) ++ sqI x k)) (x, k) = (apS (a, b) (sq (ws.take i) ++ sqI x k)) := by
              rw [putB1 hs0, setB_no (by rw [l2]; omega)]
            rw [hq] at hp
            with_reducible refine WA.exitX ?_
            repeat first | with_reducible refine WX.b ?_ | with_reducible refine WX.t ?_ | (with_reducible refine WX.n ?hne ?_; case hne => rfl)
            refine WA.regionE ty_ok hs fun K hK => ?_
            simp only [go_sem, Nat.reduceAdd, Nat.reduceLT, Nat.reduceLeDiff, Nat.reduceEqDiff, Nat.reduceSub, Nat.reduceMul, Nat.reduceBEq, Nat.reduceBNe, Nat.reducePow, Nat.reduceDiv, Int.reduceLE, Int.reduceLT, Int.reduceToNat, Int.reduceNeg, Int.reduceAdd, Int.reduceSub, Int.reduceEq, reduceIte, reduceCtorEq, UInt8.reduceOfNat, sg8]
            refine And.intro (by omega) ?_
            refine hK _ (roundE hX (fun k => k) (j := k + 1) (⟨by omega, fun q => hcut2 ⟨q.1, by omega⟩⟩) (by omega) (by simp only [go_sem, Int.natCast_add, Nat.reduceAdd, Nat.reduceLT, Nat.reduceLeDiff, Nat.reduceEqDiff, Nat.reduceSub, Nat.reduceMul, Nat.reduceBEq, Nat.reduceBNe, Nat.reducePow, Nat.reduceDiv, Int.reduceLE, Int.reduceLT, Int.reduceToNat, Int.reduceNeg, Int.reduceAdd, Int.reduceSub, Int.reduceEq, reduceIte, reduceCtorEq, UInt8.reduceOfNat, Tr_wr, hp] <;> (try and_intros) <;> (try omega)))
          ·
            have h8 := of_decide_eq_false h
            with_reducible refine WA.skipN ?_
            repeat first | with_reducible refine WN.t ?_ | with_reducible refine WN.b ?_
            refine WA.regionK ty_ok hs fun K hK => ?_
            simp only [go_sem, Nat.reduceAdd, Nat.reduceLT, Nat.reduceLeDiff, Nat.reduceEqDiff, Nat.reduceSub, Nat.reduceMul, Nat.reduceBEq, Nat.reduceBNe, Nat.reducePow, Nat.reduceDiv, Int.reduceLE, Int.reduceLT, Int.reduceToNat, Int.reduceNeg, Int.reduceAdd, Int.reduceSub, Int.reduceEq, reduceIte, reduceCtorEq, UInt8.reduceOfNat, sg8]
            first
            | refine hK _ ?_
            | refine And.intro (by first | omega | (simp; done) | (simp; omega) | (simp +contextual; done) | (simp_all; done) | (simp_all; omega)) (hK _ ?_)
            clear hK K
            refine WA.regionK ty_ok hs fun K hK => ?_
            simp only [go_sem, Nat.reduceAdd, Nat.reduceLT, Nat.reduceLeDiff, Nat.reduceEqDiff, Nat.reduceSub, Nat.reduceMul, Nat.reduceBEq, Nat.reduceBNe, Nat.reducePow, Nat.reduceDiv, Int.reduceLE, Int.reduceLT, Int.reduceToNat, Int.reduceNeg, Int.reduceAdd, Int.reduceSub, Int.reduceEq, reduceIte, reduceCtorEq, UInt8.reduceOfNat, sg8, hs0]
            first
            | refine hK _ ?_
            | refine And.intro (by first | omega | (simp; done) | (simp; omega) | (simp +contextual; done) | (simp_all; done) | (simp_all; omega)) (hK _ ?_)
            clear hK K
            refine WA.cond rfl (fun h => ?_) (fun h => ?_)
            ·
              have h9 : 0 ≤ x.at_ + (k : Int) ∧ x.at_ + (k : Int) < (b.length : Nat) := by
                cases q1 : decide (x.at_ + (k : Int) ≥ 0) with
                | false => rw [q1] at h; cases h
                | true =>
                  rw [q1] at h
                  exact ⟨of_decide_eq_true q1, of_decide_eq_true h⟩
              have hq : putB (apS (a, b) (sq (ws.take i) ++ sqI x k)) (x, k) = ((apS (a, b) (sq (ws.take i) ++ sqI x k)).1, (apS (a, b) (sq (ws.take i) ++ sqI x k)).2.set (x.at_ + (k : Int)).toNat (x.bytes.getD k 0)) := by
                rw [putB1 hs0, setB_yes (by rw [l2]; omega)]
              rw [hq] at hp
              refine WA.regionE ty_ok hs fun K hK => ?_
              simp only [go_sem, Nat.reduceAdd, Nat.reduceLT, Nat.reduceLeDiff, Nat.reduceEqDiff, Nat.reduceSub, Nat.reduceMul, Nat.reduceBEq, Nat.reduceBNe, Nat.reducePow, Nat.reduceDiv, Int.reduceLE, Int.reduceLT, Int.reduceToNat, Int.reduceNeg, Int.reduceAdd, Int.reduceSub, Int.reduceEq, reduceIte, reduceCtorEq, UInt8.reduceOfNat, sg8, hs0, l2]
              refine And.intro (by omega) ?_
              with_reducible refine hK _ (WN.mk ?_)
              clear hK K
              repeat first | with_reducible refine WN.t ?_ | with_reducible refine WN.b ?_
              refine WA.regionE ty_ok hs fun K hK => ?_
              simp only [go_sem, Nat.reduceAdd, Nat.reduceLT, Nat.reduceLeDiff, Nat.reduceEqDiff, Nat.reduceSub, Nat.reduceMul, Nat.reduceBEq, Nat.reduceBNe, Nat.reducePow, Nat.reduceDiv, Int.reduceLE, Int.reduceLT, Int.reduceToNat, Int.reduceNeg, Int.reduceAdd, Int.reduceSub, Int.reduceEq, reduceIte, reduceCtorEq, UInt8.reduceOfNat, sg8]
              refine And.intro (by omega) ?_
              refine hK _ (roundE hX (fun k => k) (j := k + 1) (⟨by omega, fun q => hcut2 ⟨q.1, by omega⟩⟩) (by omega) (by simp only [go_sem, Int.natCast_add, Nat.reduceAdd, Nat.reduceLT, Nat.reduceLeDiff, Nat.reduceEqDiff, Nat.reduceSub, Nat.reduceMul, Nat.reduceBEq, Nat.reduceBNe, Nat.reducePow, Nat.reduceDiv, Int.reduceLE, Int.reduceLT, Int.reduceToNat, Int.reduceNeg, Int.reduceAdd, Int.reduceSub, Int.reduceEq, reduceIte, reduceCtorEq, UInt8.reduceOfNat, Tr_wr, hp] <;> (try and_intros) <;> (try omega)))
            ·
              have h9 : ¬(0 ≤ x.at_ + (k : Int) ∧ x.at_ + (k : Int) < (b.length : Nat)) := by
                intro q
                rw [decide_eq_true (show x.at_ + (k : Int) ≥ 0 from q.1)] at h
                have := of_decide_eq_false h
                omega
              have hq : putB (apS (a, b) (sq (ws.take i) ++ sqI x k)) (x, k) = (apS (a, b) (sq (ws.take i) ++ sqI x k)) := by
                rw [putB1 hs0, setB_no (by rw [l2]; omega)]
              rw [hq] at hp
              with_reducible refine WA.skipN ?_
              repeat first | with_reducible refine WN.t ?_ | with_reducible refine WN.b ?_
              refine WA.regionE ty_ok hs fun K hK => ?_
              simp only [go_sem, Nat.reduceAdd, Nat.reduceLT, Nat.reduceLeDiff, Nat.reduceEqDiff, Nat.reduceSub, Nat.reduceMul, Nat.reduceBEq, Nat.reduceBNe, Nat.reducePow, Nat.reduceDiv, Int.reduceLE, Int.reduceLT, Int.reduceToNat, Int.reduceNeg, Int.reduceAdd, Int.reduceSub, Int.reduceEq, reduceIte, reduceCtorEq, UInt8.reduceOfNat, sg8]
              refine And.intro (by omega) ?_
              refine hK _ (roundE hX (fun k => k) (j := k + 1) (⟨by omega, fun q => hcut2 ⟨q.1, by omega⟩⟩) (by omega) (by simp only [go_sem, Int.natCast_add, Nat.reduceAdd, Nat.reduceLT, Nat.reduceLeDiff, Nat.reduceEqDiff, Nat.reduceSub, Nat.reduceMul, Nat.reduceBEq, Nat.reduceBNe, Nat.reducePow, Nat.reduceDiv, Int.reduceLE, Int.reduceLT, Int.reduceToNat, Int.reduceNeg, Int.reduceAdd, Int.reduceSub, Int.reduceEq, reduceIte, reduceCtorEq, UInt8.reduceOfNat, Tr_wr, hp] <;> (try and_intros) <;> (try omega)))
        ·
          have hq : putB (apS (a, b) (sq (ws.take i) ++ sqI x k)) (x, k) = (apS (a, b) (sq (ws.take i) ++ sqI x k)) := putBn (by omega) (by omega)
          rw [hq] at hp
          have f1 : x.slot.toNat = 0 := by omega
          have f2 : (x.slot < 0) = True := eq_true hs0
          refine WA.drawnK mixed_ ty_ok hs (tbl := [[], [0], [0, 1], [0, 1, 2], [0, 1, 2, 3], [0, 1, 2, 3, 4], [0, 1, 2, 3, 4, 5], [0, 1, 2, 3, 4, 5, 6], [0, 1, 2, 3, 4, 5, 6, 7], [0, 1, 2, 3, 4, 5, 6, 7, 8], [0, 1, 2, 3, 4, 5, 6, 7, 8, 9], [0, 1, 2, 3, 4, 5, 6, 7, 8], [0, 1, 2, 3, 4, 5, 6, 7, 8, 11], [0, 1, 2, 3, 4, 5, 6, 7, 8], [0, 1, 2, 3, 4, 5, 6, 7, 8, 11, 12, 13], [0, 1, 2, 3, 4, 5, 6, 7, 8, 11, 12, 13, 14], [0, 1, 2, 3, 4, 5, 6, 7, 8, 11, 12, 13, 14, 15], [0, 1, 2, 3, 4, 5, 6, 7, 8, 9, 10, 11, 12, 13, 14, 15, 16], [0, 1, 2, 3, 4, 5, 6, 7, 8, 9, 10, 11, 12, 13, 14, 15, 16, 17]]) (nb := [1, 5, 10, 12, 15]) (by kernel_rfl) fun K hK => ?_
          simp only [go_sem, Nat.reduceAdd, Nat.reduceLT, Nat.reduceLeDiff, Nat.reduceEqDiff, Nat.reduceSub, Nat.reduceMul, Nat.reduceBEq, Nat.reduceBNe, Nat.reducePow, Nat.reduceDiv, Int.reduceLE, Int.reduceLT, Int.reduceToNat, Int.reduceNeg, Int.reduceAdd, Int.reduceSub, Int.reduceEq, reduceIte, reduceCtorEq, UInt8.reduceOfNat, sg8, f1, f2]
          first
          | refine hK _ ?_
          | refine And.intro (by first | omega | (simp; done) | (simp; omega) | (simp +contextual; done) | (simp_all; done) | (simp_all; omega)) (hK _ ?_)
          clear hK K
          refine WA.cond rfl (fun h => ?_) (fun h => by cases h)
          with_reducible refine WA.exitX ?_
          repeat first | with_reducible refine WX.b ?_ | with_reducible refine WX.t ?_ | (with_reducible refine WX.n ?hne ?_; case hne => rfl)
          refine WA.regionE ty_ok hs fun K hK => ?_
          simp only [go_sem, Nat.reduceAdd, Nat.reduceLT, Nat.reduceLeDiff, Nat.reduceEqDiff, Nat.reduceSub, Nat.reduceMul, Nat.reduceBEq, Nat.reduceBNe, Nat.reducePow, Nat.reduceDiv, Int.reduceLE, Int.reduceLT, Int.reduceToNat, Int.reduceNeg, Int.reduceAdd, Int.reduceSub, Int.reduceEq, reduceIte, reduceCtorEq, UInt8.reduceOfNat, sg8]
          refine And.intro (by omega) ?_
          refine hK _ (roundE hX (fun k => k) (j := k + 1) (⟨by omega, fun q => hcut2 ⟨q.1, by omega⟩⟩) (by omega) (by simp only [go_sem, Int.natCast_add, Nat.reduceAdd, Nat.reduceLT, Nat.reduceLeDiff, Nat.reduceEqDiff, Nat.reduceSub, Nat.reduceMul, Nat.reduceBEq, Nat.reduceBNe, Nat.reducePow, Nat.reduceDiv, Int.reduceLE, Int.reduceLT, Int.reduceToNat, Int.reduceNeg, Int.reduceAdd, Int.reduceSub, Int.reduceEq, reduceIte, reduceCtorEq, UInt8.reduceOfNat, Tr_wr, hp] <;> (try and_intros) <;> (try omega)))
        ·
          have hq : putB (apS (a, b) (sq (ws.take i) ++ sqI x k)) (x, k) = (apS (a, b) (sq (ws.take i) ++ sqI x k)) := putBn (by omega) (by omega)
          rw [hq] at hp
          have f1 : ∀ (u v d : AV), [u, v].getD x.slot.toNat d = d := fun u v d => by simp [List.getD, List.getElem?_eq_none (show [u, v].length ≤ x.slot.toNat by simp; omega)]
          have f2 : (x.slot < 0) = False := eq_false (by omega)
          have f3 : (x.slot ≥ 2) = True := eq_true hs0
          refine WA.drawnK mixed_ ty_ok hs (tbl := [[], [0], [0, 1], [0, 1, 2], [0, 1, 2, 3], [0, 1, 2, 3, 4], [0, 1, 2, 3, 4, 5], [0, 1, 2, 3, 4, 5, 6], [0, 1, 2, 3, 4, 5, 6, 7], [0, 1, 2, 3, 4, 5, 6, 7, 8], [0, 1, 2, 3, 4, 5, 6, 7, 8, 9], [0, 1, 2, 3, 4, 5, 6, 7, 8], [0, 1, 2, 3, 4, 5, 6, 7, 8, 11], [0, 1, 2, 3, 4, 5, 6, 7, 8], [0, 1, 2, 3, 4, 5, 6, 7, 8, 11, 12, 13], [0, 1, 2, 3, 4, 5, 6, 7, 8, 11, 12, 13, 14], [0, 1, 2, 3, 4, 5, 6, 7, 8, 11, 12, 13, 14, 15], [0, 1, 2, 3, 4, 5, 6, 7, 8, 9, 10, 11, 12, 13, 14, 15, 16], [0, 1, 2, 3, 4, 5, 6, 7, 8, 9, 10, 11, 12, 13, 14, 15, 16, 17]]) (nb := [1, 5, 10, 12, 15]) (by kernel_rfl) fun K hK => ?_
          simp only [go_sem, Nat.reduceAdd, Nat.reduceLT, Nat.reduceLeDiff, Nat.reduceEqDiff, Nat.reduceSub, Nat.reduceMul, Nat.reduceBEq, Nat.reduceBNe, Nat.reducePow, Nat.reduceDiv, Int.reduceLE, Int.reduceLT, Int.reduceToNat, Int.reduceNeg, Int.reduceAdd, Int.reduceSub, Int.reduceEq, reduceIte, reduceCtorEq, UInt8.reduceOfNat, sg8, f1, f2, f3]
          first
          | refine hK _ ?_
          | refine And.intro (by first | omega | (simp; done) | (simp; omega) | (simp +contextual; done) | (simp_all; done) | (simp_all; omega)) (hK _ ?_)
          clear hK K
          refine WA.cond rfl (fun h => ?_) (fun h => by cases h)
          with_reducible refine WA.exitX ?_
          repeat first | with_reducible refine WX.b ?_ | with_reducible refine WX.t ?_ | (with_reducible refine WX.n ?hne ?_; case hne => rfl)
          refine WA.regionE ty_ok hs fun K hK => ?_
          simp only [go_sem, Nat.reduceAdd, Nat.reduceLT, Nat.reduceLeDiff, Nat.reduceEqDiff, Nat.reduceSub, Nat.reduceMul, Nat.reduceBEq, Nat.reduceBNe, Nat.reducePow, Nat.reduceDiv, Int.reduceLE, Int.reduceLT, Int.reduceToNat, Int.reduceNeg, Int.reduceAdd, Int.reduceSub, Int.reduceEq, reduceIte, reduceCtorEq, UInt8.reduceOfNat, sg8]
          refine And.intro (by omega) ?_
          refine hK _ (roundE hX (fun k => k) (j := k + 1) (⟨by omega, fun q => hcut2 ⟨q.1, by omega⟩⟩) (by omega) (by simp only [go_sem, Int.natCast_add, Nat.reduceAdd, Nat.reduceLT, Nat.reduceLeDiff, Nat.reduceEqDiff, Nat.reduceSub, Nat.reduceMul, Nat.reduceBEq, Nat.reduceBNe, Nat.reducePow, Nat.reduceDiv, Int.reduceLE, Int.reduceLT, Int.reduceToNat, Int.reduceNeg, Int.reduceAdd, Int.reduceSub, Int.reduceEq, reduceIte, reduceCtorEq, UInt8.reduceOfNat, Tr_wr, hp] <;> (try and_intros) <;> (try omega)))
    ·
      with_reducible refine WA.exitX ?_
      repeat first | with_reducible refine WX.b ?_ | with_reducible refine WX.t ?_ | (with_reducible refine WX.n ?hne ?_; case hne => rfl)
      have h7 : k = x.bytes.length := by have := of_decide_eq_false h; omega
      subst h7
      refine WA.regionE ty_ok hs fun K hK => ?_
      simp only [go_sem, Nat.reduceAdd, Nat.reduceLT, Nat.reduceLeDiff, Nat.reduceEqDiff, Nat.reduceSub, Nat.reduceMul, Nat.reduceBEq, Nat.reduceBNe, Nat.reducePow, Nat.reduceDiv, Int.reduceLE, Int.reduceLT, Int.reduceToNat, Int.reduceNeg, Int.reduceAdd, Int.reduceSub, Int.reduceEq, reduceIte, reduceCtorEq, UInt8.reduceOfNat, sg8]
      refine And.intro (by omega) ?_
      refine hK _ (roundE hX (fun k => k) (j := i + 1) (⟨by omega, by rw [g2]; exact hcut2⟩) (by omega) (by simp only [go_sem, Int.natCast_add, Nat.reduceAdd, Nat.reduceLT, Nat.reduceLeDiff, Nat.reduceEqDiff, Nat.reduceSub, Nat.reduceMul, Nat.reduceBEq, Nat.reduceBNe, Nat.reducePow, Nat.reduceDiv, Int.reduceLE, Int.reduceLT, Int.reduceToNat, Int.reduceNeg, Int.reduceAdd, Int.reduceSub, Int.reduceEq, reduceIte, reduceCtorEq, UInt8.reduceOfNat, Tr_wr, g2, g4] <;> (try and_intros) <;> (try omega)))
  ·
    with_reducible refine WA.exitX ?_
    repeat first | with_reducible refine WX.b ?_ | with_reducible refine WX.t ?_ | (with_reducible refine WX.n ?hne ?_; case hne => rfl)
    have h6 : i = ws.length := by have := of_decide_eq_false h; omega
    subst h6
    rw [List.take_length] at hcut
    have e := apC_all hcut
    refine WA.regionK ty_ok hs fun K hK => ?_
    simp only [go_sem, Nat.reduceAdd, Nat.reduceLT, Nat.reduceLeDiff, Nat.reduceEqDiff, Nat.reduceSub, Nat.reduceMul, Nat.reduceBEq, Nat.reduceBNe, Nat.reducePow, Nat.reduceDiv, Int.reduceLE, Int.reduceLT, Int.reduceToNat, Int.reduceNeg, Int.reduceAdd, Int.reduceSub, Int.reduceEq, reduceIte, reduceCtorEq, UInt8.reduceOfNat, sg8]
    first
    | refine hK _ ?_
    | refine And.intro (by first | omega | (simp; done) | (simp; omega) | (simp +contextual; done) | (simp_all; done) | (simp_all; omega)) (hK _ ?_)
    clear hK K
    refine WA.retE ty_ok (xs := [.agg [.by_ (apR a b ws cut).1, .by_ (apR a b ws cut).2]]) (ls' := []) (rv := [.cell 6 25]) rfl hX (by decide) (fun _ => rfl) (fun _ _ h => h) ?_
    simp only [go_sem, Nat.reduceAdd, Nat.reduceLT, Nat.reduceLeDiff, Nat.reduceEqDiff, Nat.reduceSub, Nat.reduceMul, Nat.reduceBEq, Nat.reduceBNe, Nat.reducePow, Nat.reduceDiv, Int.reduceLE, Int.reduceLT, Int.reduceToNat, Int.reduceNeg, Int.reduceAdd, Int.reduceSub, Int.reduceEq, reduceIte, reduceCtorEq, UInt8.reduceOfNat, sbT, List.take_length, apR, e, (apS_length (sq ws) (a, b)).1, (apS_length (sq ws) (a, b)).2]
    exact ⟨⟨Nat.le_refl _, Nat.le_refl _⟩, List.take_of_length_le (Nat.le_of_eq (apS_length (sq ws) (a, b)).1), List.take_of_length_le (Nat.le_of_eq (apS_length (sq ws) (a, b)).2)⟩
end Go.Proofs.Ytjhiagelgleomaa
