import Derived.Test.YtjhiagelgleomaaMemM
namespace Go.Proofs.Ytjhiagelgleomaa
open Go.RowKit Go.TravelBase Go.TravelAbs
set_option linter.unusedVariables false
set_option linter.unusedSimpArgs false

theorem u8_val (n : Int) (k : Nat) : u8 (n.fdiv (2 ^ k)) = UInt8.ofNat ((n.fdiv (2 ^ k)) % 256).toNat := by
  unfold u8
  rw [IntKind.wrap_u8]
theorem sl1_six (n : Int) : sl1 n 6 = [u8 (n.fdiv (2 ^ 40)), u8 (n.fdiv (2 ^ 32)), u8 (n.fdiv (2 ^ 24)), u8 (n.fdiv (2 ^ 16)), u8 (n.fdiv (2 ^ 8)), u8 (n.fdiv (2 ^ 0))] ++ List.replicate 258 0 := by
  have h : List.replicate 264 (0 : UInt8) = 0 :: 0 :: 0 :: 0 :: 0 :: 0 :: List.replicate 258 0 := rfl
  simp only [sl1, h, List.set_cons_zero, List.set_cons_succ]
  rfl
theorem set_fill (z : List UInt8) : ∀ (k : Nat) (p rec : List UInt8), k ≤ rec.length → p.length = 8 → rec.length ≤ z.length → 
    (List.range k).foldl (fun l i => l.set (8 + i) (rec.getD i 0)) (p ++ z) = p ++ (rec.take k ++ z.drop k) := by
  intro k
  induction k with
  | zero => intro p rec _ _ _; simp
  | succ k ih =>
    intro p rec hk hp hz
    rw [List.range_succ, List.foldl_append, ih p rec (by omega) hp hz]
    simp only [List.foldl_cons, List.foldl_nil]
    rw [List.set_append_right _ _ (by omega), show 8 + k - p.length = k by omega, List.set_append_right _ _ (by simp; omega), List.length_take, Nat.min_eq_left (by omega), Nat.sub_self]
    have hd : z.drop k = z[k]'(by omega) :: z.drop (k + 1) := List.drop_eq_getElem_cons (by omega)
    have hg : rec.getD k 0 = rec[k]'(by omega) := by simp [List.getD, List.getElem?_eq_getElem (show k < rec.length by omega)]
    rw [hd, List.set_cons_zero, List.take_succ_eq_append_getElem (show k < rec.length by omega), hg, List.append_assoc (rec.take k)]
    rfl
theorem sl2_fold (n : Int) (rec : List UInt8) : ∀ k, sl2 n rec k = (List.range k).foldl (fun l i => l.set (8 + i) (rec.getD i 0)) (sl2 n rec 0)
  | 0 => rfl
  | k + 1 => by
    rw [List.range_succ, List.foldl_append, ← sl2_fold n rec k]
    rfl
theorem sl2_zero (n : Int) (rec : List UInt8) : sl2 n rec 0 = [u8 (n.fdiv (2 ^ 40)), u8 (n.fdiv (2 ^ 32)), u8 (n.fdiv (2 ^ 24)), u8 (n.fdiv (2 ^ 16)), u8 (n.fdiv (2 ^ 8)), u8 (n.fdiv (2 ^ 0)), u8 ((rec.length : Int).fdiv (2 ^ 8)), u8 rec.length] ++ List.replicate 256 0 := by
  have h : List.replicate 258 (0 : UInt8) = 0 :: 0 :: List.replicate 256 0 := rfl
  simp only [sl2, sl1_six, h, List.cons_append, List.nil_append, List.set_cons_zero, List.set_cons_succ]
theorem ofNat_mod (m : Nat) : UInt8.ofNat (m % 256) = UInt8.ofNat m := by
  apply UInt8.toNat_inj.1
  simp
theorem u8_nat (m : Nat) : u8 (m : Int) = UInt8.ofNat m := by
  unfold u8
  rw [IntKind.wrap_u8, show ((m : Int) % 256).toNat = m % 256 by omega, ofNat_mod]
theorem u8_div (N k : Nat) : u8 ((N : Int).fdiv (2 ^ k)) = UInt8.ofNat (N / 2 ^ k) := by
  have : (N : Int).fdiv (2 ^ k) = ((N / 2 ^ k : Nat) : Int) := by
    rw [Int.fdiv_eq_ediv_of_nonneg _ (Int.le_of_lt (Int.pow_pos (by decide)))]
    norm_cast
  rw [this, u8_nat]
theorem img_sl2 (n : Int) (rec : List UInt8) (h0 : 0 ≤ n) (h1 : n < 281474976710656) (h2 : rec.length ≤ 256) : imgS n rec = 1 :: sl2 n rec rec.length := by
  obtain ⟨N, rfl⟩ := Int.eq_ofNat_of_zero_le h0
  have hz := set_fill (List.replicate 256 0) rec.length [u8 ((N : Int).fdiv (2 ^ 40)), u8 ((N : Int).fdiv (2 ^ 32)), u8 ((N : Int).fdiv (2 ^ 24)), u8 ((N : Int).fdiv (2 ^ 16)), u8 ((N : Int).fdiv (2 ^ 8)), u8 ((N : Int).fdiv (2 ^ 0)), u8 ((rec.length : Int).fdiv (2 ^ 8)), u8 rec.length] rec (Nat.le_refl _) rfl (by rw [List.length_replicate]; exact h2)
  rw [sl2_fold, sl2_zero, hz, List.take_length, List.drop_replicate]
  have a1 := (octL6 N h0 h1).1
  have a2 := (octL2 rec.length h2).1
  have o6 : octL N 6 = beS N 6 := by unfold octL; rw [if_pos a1]; rfl
  have o2 : octL rec.length 2 = beS rec.length 2 := by unfold octL; rw [if_pos a2]; rfl
  unfold imgS
  rw [o6, o2]
  simp only [beS, u8_div, u8_nat, List.cons_append, List.nil_append]
  have p0 : p256 0 = 2 ^ 0 := by decide +kernel
  have p1 : p256 1 = 2 ^ 8 := by decide +kernel
  have p2 : p256 2 = 2 ^ 16 := by decide +kernel
  have p3 : p256 3 = 2 ^ 24 := by decide +kernel
  have p4 : p256 4 = 2 ^ 32 := by decide +kernel
  have p5 : p256 5 = 2 ^ 40 := by decide +kernel
  rw [p0, p1, p2, p3, p4, p5, Nat.pow_zero, Nat.div_one, Nat.div_one]
theorem plan_lawW (a b rec : List UInt8) : pW a b rec = qW a b rec := by
  have he := plan_lawE a b rec
  unfold pW qW
  rw [← he]
  split
  · rename_i h
    have h2 : rec.length ≤ 256 := by
      unfold pE at h
      split at h
      · cases h
      · omega
    rcases nK_fK a b with ⟨h1, h3⟩ | ⟨h1, h3, h4, h5⟩ | ⟨h1, h3, h4, h5⟩
    · exfalso
      unfold pE at h
      rw [if_neg (by omega), if_neg (by rw [h1]; decide)] at h
      cases h
    · have hn : nN a b = nV a := by unfold nN; rw [h3]; exact rN_nV h5
      have hne : ¬ nV a = 281474976710655 := by
        intro q
        unfold pE at h
        rw [if_neg (by omega), if_pos h1, hn, if_pos q] at h
        cases h
      have hr := nV_range a
      rw [hn, h4, img_sl2 _ _ (by omega) (by omega) h2]
      unfold nI
      rw [h3]
      rfl
    · have hn : nN a b = nV b := by unfold nN; rw [h3]; exact rN_nV h5
      have hne : ¬ nV b = 281474976710655 := by
        intro q
        unfold pE at h
        rw [if_neg (by omega), if_pos h1, hn, if_pos q] at h
        cases h
      have hr := nV_range b
      rw [hn, h4, img_sl2 _ _ (by omega) (by omega) h2]
      unfold nI
      rw [h3]
      rfl
  · rfl
theorem empty_law (rec : List UInt8) : e0 rec = r0 rec := by
  unfold e0 r0
  split
  · rfl
  · exact img_sl2 0 rec (by omega) (by omega) (by omega)
end Go.Proofs.Ytjhiagelgleomaa
