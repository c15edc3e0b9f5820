import Derived.Test.YtbfnkddiphjdlaaOctL
namespace Go.Proofs.Ytbfnkddiphjdlaa
open Go.RowKit Go.TravelBase
set_option linter.unusedVariables false
set_option linter.unusedSimpArgs false

/-! ### What leads back -/
theorem atS_append_left (a b : List UInt8) (j : Nat) (h : j < a.length) : atS (a ++ b) j = atS a j := by
  unfold atS; rw [List.getElem?_append_left h]
theorem hexS_at (bs : List UInt8) : ∀ k, (h : k < bs.length) → atS (hexS bs) (2 * k) = (hexd (bs[k].toNat / 16)).toNat ∧ atS (hexS bs) (2 * k + 1) = (hexd (bs[k].toNat % 16)).toNat := by
  induction bs with
  | nil => intro k h; simp at h
  | cons b bs ih =>
    intro k h
    have e : hexS (b :: bs) = hexd (b.toNat / 16) :: hexd (b.toNat % 16) :: hexS bs := by simp [hexS]
    cases k with
    | zero => rw [e]; exact ⟨rfl, rfl⟩
    | succ k =>
      have h1 := ih k (by simpa using h)
      have e1 : 2 * (k + 1) = 2 * k + 2 := by omega
      rw [e, e1]
      exact h1
theorem hex_pair (bs : List UInt8) (k : Nat) (h : k < bs.length) : pairOk (hexS bs) k = true ∧ pairV (hexS bs) k = bs[k] := by
  obtain ⟨h1, h2⟩ := hexS_at bs k h
  have hb := (bs[k]).toNat_lt
  have d1 := digS_hexd (bs[k].toNat / 16) (by omega)
  have d2 := digS_hexd (bs[k].toNat % 16) (by omega)
  unfold pairOk pairV
  rw [h1, h2, d1, d2]
  refine ⟨decide_eq_true ⟨Int.natCast_nonneg _, Int.natCast_nonneg _⟩, ?_⟩
  simp only [Int.toNat_natCast]
  have : 16 * (bs[k].toNat / 16) + bs[k].toNat % 16 = bs[k].toNat := by omega
  rw [this]
  simp
theorem unhex_hex (bs : List UInt8) : unhexL (hexS bs) = bs ∧ unhexE (hexS bs) = 0 := by
  have hl := length_hexS bs
  obtain ⟨h1, h2⟩ := unhex_good (s := hexS bs) (by omega) (fun k hk => (hex_pair bs k (by omega)).1)
  refine ⟨?_, h2⟩
  rw [h1]
  have e : (hexS bs).length / 2 = bs.length := by omega
  rw [e]
  apply List.ext_getElem
  · rw [length_pairsS]
  · intro i h3 h4
    simp only [pairsS, List.getElem_map, List.getElem_range]
    exact (hex_pair bs i h4).2
theorem be_num (bs : List UInt8) : ∀ l : List UInt8, beS (numS (l ++ bs)) bs.length = bs := by
  induction bs with
  | nil => intro l; rfl
  | cons b bs ih =>
    intro l
    have h1 := ih (l ++ [b])
    have e : l ++ [b] ++ bs = l ++ b :: bs := by simp
    rw [e] at h1
    show UInt8.ofNat (numS (l ++ b :: bs) / p256 bs.length) :: beS (numS (l ++ b :: bs)) bs.length = b :: bs
    rw [h1]
    congr 1
    have h2 : ∀ (x : Nat) (m : List UInt8), m.foldl (fun n b => n * 256 + b.toNat) x = x * p256 m.length + numS m := by
      intro x m
      induction m generalizing x with
      | nil => simp [numS, p256]
      | cons y m ihm =>
        have hy := ihm (x * 256 + y.toNat)
        have h0 := ihm (0 * 256 + y.toNat)
        have e0 : numS (y :: m) = m.foldl (fun n b => n * 256 + b.toNat) (0 * 256 + y.toNat) := rfl
        rw [List.foldl_cons, hy, e0, h0, List.length_cons, p256_succ]
        simp only [Nat.add_mul, Nat.zero_mul, Nat.zero_add]
        rw [Nat.mul_assoc x 256, Nat.mul_comm 256 (p256 m.length)]
        omega
    have h3 : numS (l ++ b :: bs) = (numS l * 256 + b.toNat) * p256 bs.length + numS bs := by
      rw [← e]
      unfold numS
      rw [List.foldl_append, h2, List.foldl_append]
      rfl
    have h4 : numS bs < p256 bs.length := numS_lt bs
    rw [h3, Nat.mul_comm, Nat.mul_add_div (p256_pos _), Nat.div_eq_of_lt h4, Nat.add_zero]
    apply UInt8.toNat_inj.1
    rw [UInt8.toNat_ofNat']
    have := b.toNat_lt
    omega
theorem oct_num (bs : List UInt8) (h : bs.length ≤ 7) : octE (numV bs) bs.length = 0 ∧ octL (numV bs) bs.length = bs ∧ numE bs = 0 ∧ 0 ≤ numV bs ∧ numV bs ≤ 72057594037927936 := by
  have h1 : numS bs < p256 bs.length := numS_lt bs
  have h2 : p256 bs.length ≤ p256 7 := p256_le h
  rw [p256_7] at h2
  have e1 : numV bs = (numS bs : Int) := by unfold numV; rw [if_neg (by omega)]
  have e2 : octE (numV bs) bs.length = 0 := by
    rw [e1]
    unfold octE
    rw [if_neg (by omega), if_neg (by simp only [Int.toNat_natCast]; omega)]
  refine ⟨e2, ?_, ?_, by omega, by omega⟩
  · unfold octL
    rw [if_pos e2, e1, Int.toNat_natCast, Int.toNat_natCast]
    exact be_num bs []
  · unfold numE; rw [if_neg (by omega)]
theorem xor_xor (a b : List UInt8) (h : a.length = b.length) : xorL (xorL a b) b = a := by
  apply List.ext_getElem
  · simp [xorL, h]
  · intro i h1 h2
    simp [xorL, UInt8.xor_assoc]

set_option maxHeartbeats 800000 in
theorem walk_OctetsReturn (A : Option Addr) (n c : Nat) (xs : List UInt8) (A' : Option Addr) (n' c' : Nat) (ys : List UInt8) (w : World) (hA : Rd w A n c (bvs xs)) (hr : c * 1 ≤ 140737488351232) (hB : Rd w A' n' c' (bvs ys)) (hr' : c' * 1 ≤ 140737488351232) :
    Calls Try.prog 7 #[.slice A n c, .slice A' n' c'] w fun e w' => e = .returned (.bool true) ∧ Below w.heap.size w w' := by
  have hc := hA.cap
  have hn : n ≤ 140737488355328 := by omega
  have hl := hA.len
  have hl' := hB.len
  rw [length_bvs] at hl hl'
  have UH : Hid (∀ w, Calls Try.prog 20 #[.string (strB (hexS xs))] w (RetSE 5 n (bvs xs) 0 w)) := by
    intro w
    have h := unhex_any (hexS xs) w (by rw [length_hexS]; omega)
    rwa [(unhex_hex xs).1, (unhex_hex xs).2, hl] at h
  have hW := Below.refl w.heap.size w
  have XO : Hid (∀ w, Rd w A n c (bvs xs) → Rd w A' n' c' (bvs ys) → Calls Try.prog 14 #[.slice A n c, .slice A' n' c'] w (RetSE 5 (if n = n' then n else 0) (bvs (xorR xs ys)) (if n = n' then 0 else 2) w)) := by
    intro w h h'
    have h1 := xor_any A A' n c n' c' xs ys w h h' hn
    rw [hl, hl'] at h1
    have e : (xorR xs ys).length = if n = n' then n else 0 := by
      unfold xorR
      rw [hl, hl']
      by_cases e : n = n'
      · rw [if_pos e, if_pos e, length_xorL _ _ (by omega), hl]
      · rw [if_neg e, if_neg e]; rfl
    rwa [e] at h1
  have X2 : Hid (n = n' → ∀ w A1 c1, Rd w A1 n c1 (bvs (xorR xs ys)) → Rd w A' n' c' (bvs ys) → Calls Try.prog 14 #[.slice A1 n c1, .slice A' n' c'] w (RetSE 5 n (bvs xs) 0 w)) := by
    intro e w A1 c1 h h'
    have h1 := xor_any A1 A' n c1 n' c' (xorR xs ys) ys w h h' hn
    have e1 : xorR xs ys = xorL xs ys := by unfold xorR; rw [if_pos (by omega)]
    have e2 : xorR (xorL xs ys) ys = xs := by
      unfold xorR
      rw [if_pos (by rw [length_xorL _ _ (by omega)]; omega)]
      exact xor_xor xs ys (by omega)
    rwa [e1, e2, length_xorL _ _ (by omega), hl, if_pos (by omega)] at h1
  have NU : Hid (n ≤ 7 → ∀ w, Rd w A n c (bvs xs) → Calls Try.prog 8 #[.slice A n c] w fun e w' => e = .returned (.tuple #[.int .i64 (numV xs), .int .i64 0]) ∧ w = w') := by
    intro h7 w h
    have h1 := number_any A n c xs w h
    rwa [(oct_num xs (by omega)).2.2.1] at h1
  have OC : Hid (n ≤ 7 → ∀ w, Calls Try.prog 10 #[.int .i64 (numV xs), .int .i64 n] w (RetSE 5 n (bvs xs) 0 w)) := by
    intro h7 w
    obtain ⟨h1, h2, h3, h4, h5⟩ := oct_num xs (by omega)
    have h := octets_any (numV xs) (xs.length : Int) w (by omega) (by omega)
    rwa [h1, h2, hl] at h
  have hcase : (n = n' ∧ ((n : Int) != (n' : Int)) = false) ∨ (¬ n = n' ∧ ((n : Int) != (n' : Int)) = true) := by
    by_cases e : n = n'
    · exact .inl ⟨e, by rw [e]; simp⟩
    · exact .inr ⟨e, by rw [bne_iff_ne]; omega⟩
  by_cases h7 : n ≤ 7
  all_goals rcases hcase with ⟨hnn, hne⟩ | ⟨hnn, hne⟩
  all_goals
    first | rw [if_pos hnn, if_pos hnn] at XO | rw [if_neg hnn, if_neg hnn] at XO
    try (have X3 := Lib.hid (X2.out hnn))
    try (have NU3 := Lib.hid (NU.out h7))
    try (have OC3 := Lib.hid (OC.out h7))
    have HN := Lib.hid hnn
    clear X2 NU OC hl hl'
    clear hnn
    go_enter Try.func7, Try.ntmps7
    go_wp2_with (first
      | (go_at_call 22; go_must (refine (hex_any _ _ _ xs _ hA hn).mono ?_); rintro e w1 ⟨rfl, hb⟩; replace hA := hA.below hb; replace hB := hB.below hb; replace hW := Below.of_base hW hb hW.size; clear hb)
      | (go_at_call 20; go_must (refine (UH.out _).mono ?_); rintro e w2 ⟨A1, c1, rfl, hap, hb⟩; replace hA := hA.below hb; replace hB := hB.below hb; replace hW := Below.of_base hW hb hW.size; clear hb)
      | (go_at_call 12; go_must (refine (awake1 _).mono ?_); rintro e w3 ⟨rfl, hb⟩; replace hA := hA.below hb; replace hB := hB.below hb; replace hap := hap.below hb; replace hW := Below.of_base hW hb hW.size; clear hb)
      | (go_at_call 13; go_must (refine (rsame_any _ _ _ _ _ _ xs xs _ hap.rd hA).mono ?_); rintro e w4 hq; obtain ⟨rfl, hb⟩ := hq.below; clear hq; replace hA := hA.below hb; replace hB := hB.below hb; replace hW := Below.of_base hW hb hW.size; clear hb hap)
      | (go_at_call 8; go_must (refine (NU3.out _ hA).mono ?_); rintro e w5 ⟨rfl, rfl⟩)
      | (go_at_call 10; go_must (refine (OC3.out _).mono ?_); rintro e w6 ⟨A2, c2, rfl, hap, hb⟩; replace hA := hA.below hb; replace hB := hB.below hb; replace hW := Below.of_base hW hb hW.size; clear hb)
      | (go_at_call_of 14 A; go_must (refine (XO.out _ hA hB).mono ?_); rintro e w7 ⟨A3, c3, rfl, hap, hb⟩; replace hA := hA.below hb; replace hB := hB.below hb; replace hW := Below.of_base hW hb hW.size; clear hb)
      | (go_at_call_of 14 A3; go_must (refine (X3.out _ _ _ hap.rd hB).mono ?_); rintro e w8 ⟨A4, c4, rfl, hap, hb⟩; replace hA := hA.below hb; replace hB := hB.below hb; replace hW := Below.of_base hW hb hW.size; clear hb))
    all_goals
      go_ret
      exact ⟨by simp, hW⟩
end Go.Proofs.Ytbfnkddiphjdlaa
