import Derived.Test.YtjhiagelgleomaaMemN
namespace Go.Proofs.Ytjhiagelgleomaa
open Go.RowKit Go.TravelBase Go.TravelAbs
set_option linter.unusedVariables false
set_option linter.unusedSimpArgs false

/-! ### The plain law of MemoryKeeps and MemorySurvives -/
/-- The bytes of one slot behind some writes to it. -/
def sB (t : List UInt8) (l : List (Wr × Nat)) : List UInt8 := l.foldl (fun t y => setB t y.1.at_ y.2 (y.1.bytes.getD y.2 0)) t
theorem apS_one (a : List UInt8) : ∀ (l : List (Wr × Nat)) (b : List UInt8), (∀ y ∈ l, y.1.slot = 1) → apS (a, b) l = (a, sB b l)
  | [], _, _ => rfl
  | y :: l, b, h => by
    have h1 := h y (by simp)
    show apS (putB (a, b) y) l = _
    rw [show putB (a, b) y = (a, setB b y.1.at_ y.2 (y.1.bytes.getD y.2 0)) from putB1 (x := y.1) (k := y.2) h1, apS_one a l _ (fun z hz => h z (by simp [hz]))]
    rfl
theorem apS_zero (b : List UInt8) : ∀ (l : List (Wr × Nat)) (a : List UInt8), (∀ y ∈ l, y.1.slot = 0) → apS (a, b) l = (sB a l, b)
  | [], _, _ => rfl
  | y :: l, a, h => by
    have h1 := h y (by simp)
    show apS (putB (a, b) y) l = _
    rw [show putB (a, b) y = (setB a y.1.at_ y.2 (y.1.bytes.getD y.2 0), b) from putB0 (x := y.1) (k := y.2) h1, apS_zero b l _ (fun z hz => h z (by simp [hz]))]
    rfl
theorem sB_fill (o : Int) (x : UInt8) (r img : List UInt8) (hr : r.length = img.length) : ∀ k, k ≤ img.length → sB (x :: r) (sqI ⟨o, 1, img⟩ k) = x :: (img.take k ++ r.drop k)
  | 0, _ => by simp [sB, sqI]
  | k + 1, hk => by
    have ih := sB_fill o x r img hr k (by omega)
    have e1 : sB (x :: r) (sqI ⟨o, 1, img⟩ (k + 1)) = setB (sB (x :: r) (sqI ⟨o, 1, img⟩ k)) 1 k (img.getD k 0) := by
      unfold sB
      rw [sqI_succ, List.foldl_append]
      rfl
    rw [e1, ih, setB_yes (by simp only [List.length_cons, List.length_append, List.length_take, List.length_drop]; omega), show (1 + (k : Int)).toNat = k + 1 by omega, List.set_cons_succ,
      List.set_append_right _ _ (by simp; omega), List.length_take, Nat.min_eq_left (by omega), Nat.sub_self]
    have hd : r.drop k = r[k]'(by omega) :: r.drop (k + 1) := List.drop_eq_getElem_cons (by omega)
    have hg : img.getD k 0 = img[k]'(by omega) := by simp [List.getD, List.getElem?_eq_getElem (show k < img.length by omega)]
    rw [hd, List.set_cons_zero, List.take_succ_eq_append_getElem (show k < img.length by omega), hg, List.append_assoc (img.take k)]
    rfl
theorem sq_writes (o : Int) (img : List UInt8) : sq (writes o img) = (⟨o, 0, [0]⟩, 0) :: (sqI ⟨o, 1, img⟩ img.length ++ [(⟨o, 0, [1]⟩, 0)]) := by
  simp [sq, writes, sqI]
theorem sqI_slot (x : Wr) (k : Nat) : ∀ y ∈ sqI x k, y.1 = x := by
  intro y hy
  simp only [sqI, List.mem_map] at hy
  obtain ⟨i, _, rfl⟩ := hy
  rfl
theorem writes_slot (o : Int) (img : List UInt8) : ∀ y ∈ sq (writes o img), y.1.slot = o := by
  intro y hy
  rw [sq_writes] at hy
  simp only [List.mem_cons, List.mem_append, List.not_mem_nil, or_false] at hy
  rcases hy with rfl | hy | rfl
  · rfl
  · rw [sqI_slot _ _ y hy]
  · rfl
theorem sB_zero (o : Int) (x : UInt8) (r : List UInt8) (l : List (Wr × Nat)) : sB (x :: r) ((⟨o, 0, [0]⟩, 0) :: l) = sB (0 :: r) l := by
  unfold sB
  rw [List.foldl_cons, setB_yes (by simp; omega)]
  rfl
theorem sB_all (o : Int) (x : UInt8) (r img : List UInt8) (hr : r.length = img.length) : sB (x :: r) (sq (writes o img)) = 1 :: img := by
  rw [sq_writes, sB_zero]
  have e : sB (0 :: r) (sqI ⟨o, 1, img⟩ img.length ++ [(⟨o, 0, [1]⟩, 0)]) = setB (sB (0 :: r) (sqI ⟨o, 1, img⟩ img.length)) 0 0 1 := by
    unfold sB
    rw [List.foldl_append]
    rfl
  rw [e, sB_fill o 0 r img hr _ (Nat.le_refl _), List.take_length, List.drop_eq_nil_of_le (by omega), List.append_nil, setB_yes (by simp; omega)]
  rfl
theorem sB_part (o : Int) (x : UInt8) (r img : List UInt8) (hr : r.length = img.length) (k : Nat) (hk : k ≤ img.length) : sB (x :: r) ((sq (writes o img)).take (k + 1)) = 0 :: (img.take k ++ r.drop k) := by
  rw [sq_writes, List.take_succ_cons, List.take_append_of_le_length (by rw [sqI_length]; exact hk), sqI_take _ hk, sB_zero, sB_fill o 0 r img hr _ hk]
/-- What a slot is behind a cut of a plan. -/
def cutS (t img : List UInt8) (c : Int) : List UInt8 := if c = 0 then t else if c = 266 then 1 :: img else 0 :: (img.take (c.toNat - 1) ++ (t.drop 1).drop (c.toNat - 1))
theorem sB_cut (o : Int) (t img : List UInt8) (ht : t.length = 265) (hi : img.length = 264) (c : Int) (h0 : 0 ≤ c) (h1 : c ≤ 266) : sB t (apC (writes o img) c) = cutS t img c := by
  obtain ⟨x, r, rfl⟩ : ∃ x r, t = x :: r := by
    cases t with
    | nil => simp at ht
    | cons x r => exact ⟨x, r, rfl⟩
  have hr : r.length = img.length := by simp at ht; omega
  have hl : (sq (writes o img)).length = 266 := by rw [sq_writes]; simp [sqI_length, hi]
  unfold apC cutS
  rw [hl]
  by_cases c0 : c = 0
  · subst c0
    simp [sB]
  · rw [if_neg c0]
    by_cases c1 : c = 266
    · subst c1
      rw [if_neg (by omega), if_pos rfl]
      exact sB_all o x r img hr
    · rw [if_pos (by omega), if_neg c1]
      have e : c.toNat = (c.toNat - 1) + 1 := by omega
      rw [e, sB_part o x r img hr _ (by omega)]
      simp
theorem cutS_length (t img : List UInt8) (ht : t.length = 265) (hi : img.length = 264) (c : Int) (h0 : 0 ≤ c) (h1 : c ≤ 266) : (cutS t img c).length = 265 := by
  unfold cutS
  split
  · exact ht
  · split
    · simp [hi]
    · simp [hi, ht]; omega
theorem ap_plan (a b rec : List UInt8) (ha : a.length = 265) (hb : b.length = 265) (hp : pE a b rec = 0) (img : List UInt8) (hi : (imgS (nN a b + 1) rec).drop 1 = img) (hl : img.length = 264) (c : Int) (h0 : 0 ≤ c) (h1 : c ≤ 266) :
    apR a b (pW a b rec) c = if nP a b = true then (cutS a img c, b) else (a, cutS b img c) := by
  unfold apR pW
  rw [if_pos hp, hi]
  have hs : ∀ o, ∀ y ∈ apC (writes o img) c, y.1.slot = o := by
    intro o y hy
    unfold apC at hy
    split at hy
    · exact writes_slot o img y (List.mem_of_mem_take hy)
    · exact writes_slot o img y hy
  unfold nI
  split
  · rw [show (1 : Int) - 1 = 0 from rfl, apS_zero b _ a (hs 0), sB_cut 0 a img ha hl c h0 h1]
  · rw [show (1 : Int) - 0 = 1 from rfl, apS_one a _ b (hs 1), sB_cut 1 b img hb hl c h0 h1]
theorem numS_be (n : Nat) : ∀ k, numS (beS n k) = n % p256 k := by
  have hfold : ∀ (l : List UInt8) (s : Nat), l.foldl (fun n b => n * 256 + b.toNat) s = s * p256 l.length + numS l := by
    intro l
    induction l with
    | nil => intro s; simp [numS, p256]
    | cons x r ih =>
      intro s
      have e : numS (x :: r) = r.foldl (fun n b => n * 256 + b.toNat) (0 * 256 + x.toNat) := rfl
      rw [e, List.foldl_cons, ih, ih, List.length_cons, p256_succ, Nat.zero_mul, Nat.zero_add, Nat.add_mul, Nat.mul_assoc, Nat.mul_comm 256, Nat.add_assoc]
  intro k
  induction k with
  | zero => simp [beS, numS, p256, Nat.mod_one]
  | succ k ih =>
    have e : numS (beS n (k + 1)) = (beS n k).foldl (fun n b => n * 256 + b.toNat) (0 * 256 + (UInt8.ofNat (n / p256 k)).toNat) := rfl
    rw [e, hfold, length_beS, ih, Nat.zero_mul, Nat.zero_add, UInt8.toNat_ofNat', p256_succ, Nat.mod_mul, Nat.mul_comm, Nat.add_comm]
theorem img_reads (n : Int) (rec : List UInt8) (h0 : 0 ≤ n) (h1 : n < 281474976710656) (h2 : rec.length ≤ 256) : rO (imgS n rec) = true ∧ rN (imgS n rec) = n ∧ rR (imgS n rec) = rec ∧ (imgS n rec).length = 265 ∧ 1 :: (imgS n rec).drop 1 = imgS n rec := by
  have l6 := (octL6 n h0 h1).2
  have l2 := (octL2 rec.length h2).2
  have e6 := (octL6 n h0 h1).1
  have e2 := (octL2 rec.length h2).1
  have hlen := imgS_length n rec h0 h1 h2
  have d1 : ((imgS n rec).take 7).drop 1 = octL n 6 := by
    unfold imgS
    rw [List.append_assoc, List.append_assoc, List.append_assoc, List.singleton_append, List.take_succ_cons, List.drop_succ_cons, List.drop_zero, List.take_append, List.take_of_length_le (by omega), l6]
    simp
  have d7 : ((imgS n rec).take 9).drop 7 = octL rec.length 2 := by
    unfold imgS
    rw [List.append_assoc, List.append_assoc, List.append_assoc, List.singleton_append, List.take_succ_cons, List.drop_succ_cons, List.take_append, List.take_of_length_le (by omega), l6, List.drop_append, List.drop_eq_nil_of_le (by omega), l6, List.take_append, l2]
    simp [List.take_of_length_le (show (octL (rec.length : Int) 2).length ≤ 2 by omega)]
  have n6 : numV (octL n 6) = n := by
    unfold numV
    rw [if_neg (by omega)]
    unfold octL
    rw [if_pos e6]
    have p6 : p256 6 = 281474976710656 := by decide +kernel
    rw [numS_be, show (6 : Int).toNat = 6 from rfl, p6, Nat.mod_eq_of_lt (by omega)]
    omega
  have n2 : numV (octL rec.length 2) = rec.length := by
    unfold numV
    rw [if_neg (by omega)]
    unfold octL
    rw [if_pos e2]
    have p2 : p256 2 = 65536 := by decide +kernel
    rw [numS_be, show (2 : Int).toNat = 2 from rfl, p2, Int.toNat_natCast, Nat.mod_eq_of_lt (by omega)]
  have hO : rO (imgS n rec) = true := by
    have h3 : ((imgS n rec).getD 0 0).toNat = 1 := rfl
    unfold rO
    rw [d7, n2, hlen, h3]
    simp
    omega
  refine ⟨hO, ?_, ?_, hlen, rfl⟩
  · unfold rN
    rw [if_pos hO, d1, n6]
  · unfold rR
    rw [if_pos hO, d7, n2, show (9 + (rec.length : Int)).toNat = 9 + rec.length by omega]
    unfold imgS
    have hp : ([1] ++ octL n 6 ++ octL rec.length 2).length = 9 := by simp [l6, l2]
    generalize [1] ++ octL n 6 ++ octL rec.length 2 = q at hp
    rw [List.append_assoc, ← hp, List.take_length_add_append, List.drop_left, List.take_left]
theorem zero_not (t : List UInt8) (img : List UInt8) (c : Int) (h0 : 0 < c) (h1 : c < 266) : rO (cutS t img c) = false := by
  unfold cutS
  rw [if_neg (by omega), if_neg (by omega)]
  unfold rO
  simp
/-- Behind any cut of a plan. -/
theorem keep_law (a b rec : List UInt8) (ha : a.length = 265) (hb : b.length = 265) (hp : pE a b rec = 0) (c : Int) (h0 : 0 ≤ c) (h1 : c ≤ 266) :
    ((apR a b (pW a b rec) c).1.length = 265 ∧ (apR a b (pW a b rec) c).2.length = 265 ∧ nK (apR a b (pW a b rec) c).1 (apR a b (pW a b rec) c).2 = true) ∧
      (c < 266 → nR (apR a b (pW a b rec) c).1 (apR a b (pW a b rec) c).2 = nR a b ∧ nN (apR a b (pW a b rec) c).1 (apR a b (pW a b rec) c).2 = nN a b) ∧
      (c = 266 → nR (apR a b (pW a b rec) c).1 (apR a b (pW a b rec) c).2 = rec ∧ nN (apR a b (pW a b rec) c).1 (apR a b (pW a b rec) c).2 = nN a b + 1) := by
  have hr : rec.length ≤ 256 ∧ nK a b = true ∧ nN a b ≠ 281474976710655 := by
    unfold pE at hp
    split at hp
    · cases hp
    · split at hp
      · split at hp
        · cases hp
        · exact ⟨by omega, by assumption, by assumption⟩
      · cases hp
  obtain ⟨hr, hk, hn⟩ := hr
  have hrg := nN_range a b
  obtain ⟨i1, i2, i3, i4, i5⟩ := img_reads (nN a b + 1) rec (by omega) (by omega) hr
  have hl : ((imgS (nN a b + 1) rec).drop 1).length = 264 := by rw [List.length_drop, i4]
  rw [ap_plan a b rec ha hb hp _ rfl hl c h0 h1]
  have ca := cutS_length a _ ha hl c h0 h1
  have cb := cutS_length b _ hb hl c h0 h1
  rcases (show c = 0 ∨ c = 266 ∨ (0 < c ∧ c < 266) by omega) with rfl | rfl | ⟨h2, h3⟩
  · have e1 : ∀ t img, cutS t img 0 = t := fun t img => if_pos rfl
    simp only [e1]
    have e2 : (if nP a b = true then (a, b) else (a, b)) = (a, b) := by split <;> rfl
    rw [e2]
    exact ⟨⟨ha, hb, hk⟩, fun _ => ⟨rfl, rfl⟩, fun h => by omega⟩
  · have e1 : ∀ t, cutS t ((imgS (nN a b + 1) rec).drop 1) 266 = imgS (nN a b + 1) rec := fun t => by
      unfold cutS
      rw [if_neg (by omega), if_pos rfl, i5]
    rw [e1, e1] at *
    cases hP : nP a b
    · have hN : nN a b = rN a := by unfold nN; rw [hP]; rfl
      rw [if_neg (by simp)]
      have hP2 : nP a (imgS (nN a b + 1) rec) = true := by
        unfold nP
        rw [i1, i2, hN]
        simp
        exact .inr (by omega)
      refine ⟨⟨ha, i4, ?_⟩, fun h => by omega, fun _ => ⟨?_, ?_⟩⟩
      · unfold nK; rw [hP2]; rfl
      · unfold nR; rw [hP2]; exact i3
      · have e3 : ∀ t, nP a t = true → nN a t = rN t := fun t h => by unfold nN; rw [h]; rfl
        show nN a (imgS (nN a b + 1) rec) = _
        rw [e3 _ hP2, i2]
    · have hN : nN a b = rN b := by unfold nN; rw [hP]; rfl
      have hOb : rO b = true := by
        unfold nP at hP
        simp only [Bool.and_eq_true] at hP
        exact hP.1
      rw [if_pos rfl]
      have hP2 : nP (imgS (nN a b + 1) rec) b = false := by
        unfold nP
        rw [hOb, i1, i2, hN]
        simp
        omega
      refine ⟨⟨i4, hb, ?_⟩, fun h => by omega, fun _ => ⟨?_, ?_⟩⟩
      · unfold nK; rw [hP2]; exact i1
      · unfold nR; rw [hP2]; exact i3
      · have e3 : ∀ t, nP t b = false → nN t b = rN t := fun t h => by unfold nN; rw [h]; rfl
        show nN (imgS (nN a b + 1) rec) b = _
        rw [e3 _ hP2, i2]
  · have za := zero_not a ((imgS (nN a b + 1) rec).drop 1) c h2 h3
    have zb := zero_not b ((imgS (nN a b + 1) rec).drop 1) c h2 h3
    revert za zb ca cb
    generalize cutS a ((imgS (nN a b + 1) rec).drop 1) c = a'
    generalize cutS b ((imgS (nN a b + 1) rec).drop 1) c = b'
    intro ca cb za zb
    cases hP : nP a b
    · have hOa : rO a = true := by
        unfold nK at hk
        rw [hP] at hk
        exact hk
      rw [if_neg (by simp)]
      have hP2 : nP a b' = false := by
        unfold nP
        rw [zb]
        rfl
      refine ⟨⟨ha, cb, ?_⟩, fun _ => ⟨?_, ?_⟩, fun h => by omega⟩
      · unfold nK; rw [hP2]; exact hOa
      · unfold nR; rw [hP2, hP]; rfl
      · show nN a b' = _
        unfold nN; rw [hP2, hP]; rfl
    · have hOb : rO b = true := by
        unfold nP at hP
        simp only [Bool.and_eq_true] at hP
        exact hP.1
      rw [if_pos rfl]
      have hP2 : nP a' b = true := by
        unfold nP
        rw [hOb, za]
        rfl
      refine ⟨⟨ca, hb, ?_⟩, fun _ => ⟨?_, ?_⟩, fun h => by omega⟩
      · unfold nK; rw [hP2]; rfl
      · unfold nR; rw [hP2, hP]; rfl
      · show nN a' b = _
        unfold nN; rw [hP2, hP]; rfl
end Go.Proofs.Ytjhiagelgleomaa
