import Derived.Test.YtbocppkdooogfaaGrpB
namespace Go.Proofs.Ytbocppkdooogfaa
open Go.RowKit Go.TravelBase
set_option linter.unusedVariables false
set_option linter.unusedSimpArgs false

/-! ### Residues, secrets, elements -/
def resB (x : Int) : Bool := decide (0 < x ∧ x < 2147483579)
def secB (k : Int) : Bool := decide (0 < k ∧ k < 1073741789)
def pwI (x k : Int) : Int := (pwN x.toNat k.toNat : Int)
def eltB (x : Int) : Bool := resB x && decide (x ≠ 1) && decide (pwI x 1073741789 = 1)
theorem resB_t {x : Int} (h : resB x = true) : 0 < x ∧ x < 2147483579 := of_decide_eq_true h
theorem resB_f {x : Int} (h : resB x = false) : ¬ (0 < x ∧ x < 2147483579) := of_decide_eq_false h
theorem secB_t {x : Int} (h : secB x = true) : 0 < x ∧ x < 1073741789 := of_decide_eq_true h
theorem secB_f {x : Int} (h : secB x = false) : ¬ (0 < x ∧ x < 1073741789) := of_decide_eq_false h

set_option maxHeartbeats 400000 in
theorem residue_any (x : Int) (w : World) : Calls Try.prog 29 #[.int .i64 x] w fun e w' => e = .returned (.bool (resB x)) ∧ w = w' := by
  cases hb : resB x with
  | true =>
    obtain ⟨h1, h2⟩ := resB_t hb
    have h3 : 1 ≤ x := by omega
    clear hb
    go_enter Try.func29, Try.ntmps29
    go_wp2_with (fail)
    go_ret
    exact ⟨rfl, rfl⟩
  | false =>
    have h := resB_f hb
    clear hb
    by_cases h1 : 0 < x
    · have h2 : ¬ x < 2147483579 := by omega
      have h3 : 1 ≤ x := by omega
      clear h
      go_enter Try.func29, Try.ntmps29
      go_wp2_with (fail)
      go_ret
      exact ⟨rfl, rfl⟩
    · have h3 : ¬ 1 ≤ x := by omega
      clear h
      go_enter Try.func29, Try.ntmps29
      go_wp2_with (fail)
      go_ret
      exact ⟨rfl, rfl⟩

set_option maxHeartbeats 400000 in
theorem rresidue_any (x : Int) (w : World) : Calls Try.prog 34 #[.int .i64 x] w fun e w' => e = .returned (.bool (resB x)) ∧ w = w' := by
  cases hb : resB x with
  | true =>
    obtain ⟨h1, h2⟩ := resB_t hb
    have h3 : 1 ≤ x := by omega
    clear hb
    go_enter Try.func34, Try.ntmps34
    go_wp2_with (fail)
    go_ret
    exact ⟨rfl, rfl⟩
  | false =>
    have h := resB_f hb
    clear hb
    by_cases h1 : 0 < x
    · have h2 : ¬ x < 2147483579 := by omega
      have h3 : 1 ≤ x := by omega
      clear h
      go_enter Try.func34, Try.ntmps34
      go_wp2_with (fail)
      go_ret
      exact ⟨rfl, rfl⟩
    · have h3 : ¬ 1 ≤ x := by omega
      clear h
      go_enter Try.func34, Try.ntmps34
      go_wp2_with (fail)
      go_ret
      exact ⟨rfl, rfl⟩

set_option maxHeartbeats 400000 in
theorem secret_any (x : Int) (w : World) : Calls Try.prog 31 #[.int .i64 x] w fun e w' => e = .returned (.bool (secB x)) ∧ w = w' := by
  cases hb : secB x with
  | true =>
    obtain ⟨h1, h2⟩ := secB_t hb
    have h3 : 1 ≤ x := by omega
    clear hb
    go_enter Try.func31, Try.ntmps31
    go_wp2_with (fail)
    go_ret
    exact ⟨rfl, rfl⟩
  | false =>
    have h := secB_f hb
    clear hb
    by_cases h1 : 0 < x
    · have h2 : ¬ x < 1073741789 := by omega
      have h3 : 1 ≤ x := by omega
      clear h
      go_enter Try.func31, Try.ntmps31
      go_wp2_with (fail)
      go_ret
      exact ⟨rfl, rfl⟩
    · have h3 : ¬ 1 ≤ x := by omega
      clear h
      go_enter Try.func31, Try.ntmps31
      go_wp2_with (fail)
      go_ret
      exact ⟨rfl, rfl⟩

set_option maxHeartbeats 400000 in
theorem rsecret_any (x : Int) (w : World) : Calls Try.prog 32 #[.int .i64 x] w fun e w' => e = .returned (.bool (secB x)) ∧ w = w' := by
  cases hb : secB x with
  | true =>
    obtain ⟨h1, h2⟩ := secB_t hb
    have h3 : 1 ≤ x := by omega
    clear hb
    go_enter Try.func32, Try.ntmps32
    go_wp2_with (fail)
    go_ret
    exact ⟨rfl, rfl⟩
  | false =>
    have h := secB_f hb
    clear hb
    by_cases h1 : 0 < x
    · have h2 : ¬ x < 1073741789 := by omega
      have h3 : 1 ≤ x := by omega
      clear h
      go_enter Try.func32, Try.ntmps32
      go_wp2_with (fail)
      go_ret
      exact ⟨rfl, rfl⟩
    · have h3 : ¬ 1 ≤ x := by omega
      clear h
      go_enter Try.func32, Try.ntmps32
      go_wp2_with (fail)
      go_ret
      exact ⟨rfl, rfl⟩

theorem power_i (x k : Int) (hx0 : 0 ≤ x) (hx : x < 2147483579) (hk0 : 0 ≤ k) (hk : k ≤ 2147483647) (w : World) :
    Calls Try.prog 30 #[.int .i64 x, .int .i64 k] w fun e w' => e = .returned (.int .i64 (pwI x k)) ∧ w = w' := by
  obtain ⟨a, rfl⟩ := Int.eq_ofNat_of_zero_le hx0
  obtain ⟨b, rfl⟩ := Int.eq_ofNat_of_zero_le hk0
  exact power_any a b hx hk w

theorem pow_i (x k : Int) (hx0 : 0 ≤ x) (hx : x < 2147483579) (hk0 : 0 ≤ k) (hk : k ≤ 2147483647) (w : World) :
    Calls Try.prog 33 #[.int .i64 x, .int .i64 k] w fun e w' => e = .returned (.int .i64 (pwI x k)) ∧ w = w' := by
  obtain ⟨a, rfl⟩ := Int.eq_ofNat_of_zero_le hx0
  obtain ⟨b, rfl⟩ := Int.eq_ofNat_of_zero_le hk0
  exact pow_any a b hx hk w

set_option maxHeartbeats 400000 in
theorem element_any (x : Int) (w : World) : Calls Try.prog 12 #[.int .i64 x] w fun e w' => e = .returned (.bool (eltB x)) ∧ w = w' := by
  have R1 := Lib.hid (residue_any x)
  cases hb : resB x with
  | false =>
    have he : eltB x = false := by simp [eltB, hb]
    rw [he]
    rw [hb] at R1
    clear he hb
    go_enter Try.func12, Try.ntmps12
    go_wp2_with (go_at_call 29; go_must (refine (R1.out _).mono ?_); rintro e w1 ⟨rfl, rfl⟩)
    go_ret
    exact ⟨rfl, rfl⟩
  | true =>
    obtain ⟨h1, h2⟩ := resB_t hb
    rw [hb] at R1
    by_cases hx : x = 1
    · have he : eltB x = false := by simp [eltB, hx]
      rw [he]
      have hx2 : (x != 1) = false := by simp [hx]
      clear he hb hx
      go_enter Try.func12, Try.ntmps12
      go_wp2_with (go_at_call 29; go_must (refine (R1.out _).mono ?_); rintro e w1 ⟨rfl, rfl⟩)
      go_ret
      exact ⟨rfl, rfl⟩
    · have he : eltB x = (pwI x 1073741789 == 1) := by rw [Bool.eq_iff_iff]; simp [eltB, hb, hx]
      rw [he]
      have hx2 : (x != 1) = true := by simp [hx]
      have PW := Lib.hid (power_i x 1073741789 (by omega) h2 (by omega) (by omega))
      generalize pwI x 1073741789 = y at *
      clear he hb hx
      go_enter Try.func12, Try.ntmps12
      go_wp2_with (first | (go_at_call 29; go_must (refine (R1.out _).mono ?_); rintro e w1 ⟨rfl, rfl⟩) | (go_at_call 30; go_must (refine (PW.out _).mono ?_); rintro e w1 ⟨rfl, rfl⟩))
      go_ret
      exact ⟨rfl, rfl⟩

set_option maxHeartbeats 400000 in
theorem relement_any (x : Int) (w : World) : Calls Try.prog 22 #[.int .i64 x] w fun e w' => e = .returned (.bool (eltB x)) ∧ w = w' := by
  have R1 := Lib.hid (rresidue_any x)
  cases hb : resB x with
  | false =>
    have he : eltB x = false := by simp [eltB, hb]
    rw [he]
    rw [hb] at R1
    clear he hb
    go_enter Try.func22, Try.ntmps22
    go_wp2_with (go_at_call 34; go_must (refine (R1.out _).mono ?_); rintro e w1 ⟨rfl, rfl⟩)
    go_ret
    exact ⟨rfl, rfl⟩
  | true =>
    obtain ⟨h1, h2⟩ := resB_t hb
    rw [hb] at R1
    by_cases hx : x = 1
    · have he : eltB x = false := by simp [eltB, hx]
      rw [he]
      have hx2 : (x != 1) = false := by simp [hx]
      clear he hb hx
      go_enter Try.func22, Try.ntmps22
      go_wp2_with (go_at_call 34; go_must (refine (R1.out _).mono ?_); rintro e w1 ⟨rfl, rfl⟩)
      go_ret
      exact ⟨rfl, rfl⟩
    · have he : eltB x = (pwI x 1073741789 == 1) := by rw [Bool.eq_iff_iff]; simp [eltB, hb, hx]
      rw [he]
      have hx2 : (x != 1) = true := by simp [hx]
      have PW := Lib.hid (pow_i x 1073741789 (by omega) h2 (by omega) (by omega))
      generalize pwI x 1073741789 = y at *
      clear he hb hx
      go_enter Try.func22, Try.ntmps22
      go_wp2_with (first | (go_at_call 34; go_must (refine (R1.out _).mono ?_); rintro e w1 ⟨rfl, rfl⟩) | (go_at_call 33; go_must (refine (PW.out _).mono ?_); rintro e w1 ⟨rfl, rfl⟩))
      go_ret
      exact ⟨rfl, rfl⟩

end Go.Proofs.Ytbocppkdooogfaa
