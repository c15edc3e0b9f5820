import Derived.Test.YtgmmdijmlnehlaaDoorGrpB
namespace Go.Proofs.YtgmmdijmlnehlaaDoor
open Go.RowKit Go.TravelBase
set_option linter.unusedVariables false
set_option linter.unusedSimpArgs false

/-! ### Residues, secrets, elements -/
def resB (x : Int) : Bool := decide (0 < x ∧ x < 2147483579)
def secB (k : Int) : Bool := decide (0 < k ∧ k < 1073741789)
def pwI (x k : Int) : Int := (pwN x.toNat k.toNat : Int)
def eltB (x : Int) : Bool := resB x && decide (x ≠ 1) && decide (pwI x 1073741789 = 1)
theorem resB_t {x : Int} (h : resB x = true) : 0 < x ∧ x < 2147483579 := of_decide_eq_true h
theorem resB_f {x : Int} (h : resB x = false) : ¬ (0 < x ∧ x < 2147483579) := of_decide_eq_false h
theorem secB_t {x : Int} (h : secB x = true) : 0 < x ∧ x < 1073741789 := of_decide_eq_true h
theorem secB_f {x : Int} (h : secB x = false) : ¬ (0 < x ∧ x < 1073741789) := of_decide_eq_false h

set_option maxHeartbeats 400000 in
theorem residue_any (x : Int) (w : World) : Calls Tryd.prog 63 #[.int .i64 x] w fun e w' => e = .returned (.bool (resB x)) ∧ w = w' := by
  cases hb : resB x with
  | true =>
    obtain ⟨h1, h2⟩ := resB_t hb
    have h3 : 1 ≤ x := by omega
    clear hb
    go_enter Tryd.func63, Tryd.ntmps63
    go_wp2_with (fail)
    go_ret
    exact ⟨rfl, rfl⟩
  | false =>
    have h := resB_f hb
    clear hb
    by_cases h1 : 0 < x
    · have h2 : ¬ x < 2147483579 := by omega
      have h3 : 1 ≤ x := by omega
      clear h
      go_enter Tryd.func63, Tryd.ntmps63
      go_wp2_with (fail)
      go_ret
      exact ⟨rfl, rfl⟩
    · have h3 : ¬ 1 ≤ x := by omega
      clear h
      go_enter Tryd.func63, Tryd.ntmps63
      go_wp2_with (fail)
      go_ret
      exact ⟨rfl, rfl⟩

set_option maxHeartbeats 400000 in
theorem rresidue_any (x : Int) (w : World) : Calls Tryd.prog 54 #[.int .i64 x] w fun e w' => e = .returned (.bool (resB x)) ∧ w = w' := by
  cases hb : resB x with
  | true =>
    obtain ⟨h1, h2⟩ := resB_t hb
    have h3 : 1 ≤ x := by omega
    clear hb
    go_enter Tryd.func54, Tryd.ntmps54
    go_wp2_with (fail)
    go_ret
    exact ⟨rfl, rfl⟩
  | false =>
    have h := resB_f hb
    clear hb
    by_cases h1 : 0 < x
    · have h2 : ¬ x < 2147483579 := by omega
      have h3 : 1 ≤ x := by omega
      clear h
      go_enter Tryd.func54, Tryd.ntmps54
      go_wp2_with (fail)
      go_ret
      exact ⟨rfl, rfl⟩
    · have h3 : ¬ 1 ≤ x := by omega
      clear h
      go_enter Tryd.func54, Tryd.ntmps54
      go_wp2_with (fail)
      go_ret
      exact ⟨rfl, rfl⟩

set_option maxHeartbeats 400000 in
theorem rsecret_any (x : Int) (w : World) : Calls Tryd.prog 66 #[.int .i64 x] w fun e w' => e = .returned (.bool (secB x)) ∧ w = w' := by
  cases hb : secB x with
  | true =>
    obtain ⟨h1, h2⟩ := secB_t hb
    have h3 : 1 ≤ x := by omega
    clear hb
    go_enter Tryd.func66, Tryd.ntmps66
    go_wp2_with (fail)
    go_ret
    exact ⟨rfl, rfl⟩
  | false =>
    have h := secB_f hb
    clear hb
    by_cases h1 : 0 < x
    · have h2 : ¬ x < 1073741789 := by omega
      have h3 : 1 ≤ x := by omega
      clear h
      go_enter Tryd.func66, Tryd.ntmps66
      go_wp2_with (fail)
      go_ret
      exact ⟨rfl, rfl⟩
    · have h3 : ¬ 1 ≤ x := by omega
      clear h
      go_enter Tryd.func66, Tryd.ntmps66
      go_wp2_with (fail)
      go_ret
      exact ⟨rfl, rfl⟩

theorem power_i (x k : Int) (hx0 : 0 ≤ x) (hx : x < 2147483579) (hk0 : 0 ≤ k) (hk : k ≤ 2147483647) (w : World) :
    Calls Tryd.prog 64 #[.int .i64 x, .int .i64 k] w fun e w' => e = .returned (.int .i64 (pwI x k)) ∧ w = w' := by
  obtain ⟨a, rfl⟩ := Int.eq_ofNat_of_zero_le hx0
  obtain ⟨b, rfl⟩ := Int.eq_ofNat_of_zero_le hk0
  exact power_any a b hx hk w

theorem pow_i (x k : Int) (hx0 : 0 ≤ x) (hx : x < 2147483579) (hk0 : 0 ≤ k) (hk : k ≤ 2147483647) (w : World) :
    Calls Tryd.prog 55 #[.int .i64 x, .int .i64 k] w fun e w' => e = .returned (.int .i64 (pwI x k)) ∧ w = w' := by
  obtain ⟨a, rfl⟩ := Int.eq_ofNat_of_zero_le hx0
  obtain ⟨b, rfl⟩ := Int.eq_ofNat_of_zero_le hk0
  exact pow_any a b hx hk w

set_option maxHeartbeats 400000 in
theorem element_any (x : Int) (w : World) : Calls Tryd.prog 50 #[.int .i64 x] w fun e w' => e = .returned (.bool (eltB x)) ∧ w = w' := by
  have R1 := Lib.hid (residue_any x)
  cases hb : resB x with
  | false =>
    have he : eltB x = false := by simp [eltB, hb]
    rw [he]
    rw [hb] at R1
    clear he hb
    go_enter Tryd.func50, Tryd.ntmps50
    go_wp2_with (go_at_call 63; go_must (refine (R1.out _).mono ?_); rintro e w1 ⟨rfl, rfl⟩)
    go_ret
    exact ⟨rfl, rfl⟩
  | true =>
    obtain ⟨h1, h2⟩ := resB_t hb
    rw [hb] at R1
    by_cases hx : x = 1
    · have he : eltB x = false := by simp [eltB, hx]
      rw [he]
      have hx2 : (x != 1) = false := by simp [hx]
      clear he hb hx
      go_enter Tryd.func50, Tryd.ntmps50
      go_wp2_with (go_at_call 63; go_must (refine (R1.out _).mono ?_); rintro e w1 ⟨rfl, rfl⟩)
      go_ret
      exact ⟨rfl, rfl⟩
    · have he : eltB x = (pwI x 1073741789 == 1) := by rw [Bool.eq_iff_iff]; simp [eltB, hb, hx]
      rw [he]
      have hx2 : (x != 1) = true := by simp [hx]
      have PW := Lib.hid (power_i x 1073741789 (by omega) h2 (by omega) (by omega))
      generalize pwI x 1073741789 = y at *
      clear he hb hx
      go_enter Tryd.func50, Tryd.ntmps50
      go_wp2_with (first | (go_at_call 63; go_must (refine (R1.out _).mono ?_); rintro e w1 ⟨rfl, rfl⟩) | (go_at_call 64; go_must (refine (PW.out _).mono ?_); rintro e w1 ⟨rfl, rfl⟩))
      go_ret
      exact ⟨rfl, rfl⟩

set_option maxHeartbeats 400000 in
theorem relement_any (x : Int) (w : World) : Calls Tryd.prog 29 #[.int .i64 x] w fun e w' => e = .returned (.bool (eltB x)) ∧ w = w' := by
  have R1 := Lib.hid (rresidue_any x)
  cases hb : resB x with
  | false =>
    have he : eltB x = false := by simp [eltB, hb]
    rw [he]
    rw [hb] at R1
    clear he hb
    go_enter Tryd.func29, Tryd.ntmps29
    go_wp2_with (go_at_call 54; go_must (refine (R1.out _).mono ?_); rintro e w1 ⟨rfl, rfl⟩)
    go_ret
    exact ⟨rfl, rfl⟩
  | true =>
    obtain ⟨h1, h2⟩ := resB_t hb
    rw [hb] at R1
    by_cases hx : x = 1
    · have he : eltB x = false := by simp [eltB, hx]
      rw [he]
      have hx2 : (x != 1) = false := by simp [hx]
      clear he hb hx
      go_enter Tryd.func29, Tryd.ntmps29
      go_wp2_with (go_at_call 54; go_must (refine (R1.out _).mono ?_); rintro e w1 ⟨rfl, rfl⟩)
      go_ret
      exact ⟨rfl, rfl⟩
    · have he : eltB x = (pwI x 1073741789 == 1) := by rw [Bool.eq_iff_iff]; simp [eltB, hb, hx]
      rw [he]
      have hx2 : (x != 1) = true := by simp [hx]
      have PW := Lib.hid (pow_i x 1073741789 (by omega) h2 (by omega) (by omega))
      generalize pwI x 1073741789 = y at *
      clear he hb hx
      go_enter Tryd.func29, Tryd.ntmps29
      go_wp2_with (first | (go_at_call 54; go_must (refine (R1.out _).mono ?_); rintro e w1 ⟨rfl, rfl⟩) | (go_at_call 55; go_must (refine (PW.out _).mono ?_); rintro e w1 ⟨rfl, rfl⟩))
      go_ret
      exact ⟨rfl, rfl⟩

end Go.Proofs.YtgmmdijmlnehlaaDoor

namespace Go.Proofs.YtgmmdijmlnehlaaDoor
open Go.RowKit Go.TravelBase
set_option linter.unusedVariables false
set_option linter.unusedSimpArgs false

/-! ### Multiply, Power, Invert, Public, Share -/
def mulV (a b : Int) : Int := if resB a && resB b then a * b % 2147483579 else 0
def mulE (a b : Int) : Int := if resB a && resB b then 0 else 3
def expB (k : Int) : Bool := decide (0 ≤ k ∧ k ≤ 1073741789)
theorem expB_t {x : Int} (h : expB x = true) : 0 ≤ x ∧ x ≤ 1073741789 := of_decide_eq_true h
theorem expB_f {x : Int} (h : expB x = false) : ¬ (0 ≤ x ∧ x ≤ 1073741789) := of_decide_eq_false h
def powV (x k : Int) : Int := if resB x && expB k then pwI x k else 0
def powE (x k : Int) : Int := if resB x && expB k then 0 else 3
def invV (x : Int) : Int := if resB x then pwI x 2147483577 else 0
def invE (x : Int) : Int := if resB x then 0 else 3
def pubV (k : Int) : Int := if secB k then pwI 4 k else 0
def pubE (k : Int) : Int := if secB k then 0 else 3
def shaV (k x : Int) : Int := if secB k && eltB x then pwI x k else 0
def shaE (k x : Int) : Int := if secB k then (if eltB x then 0 else 10) else 3
theorem eltB_res {x : Int} (h : eltB x = true) : resB x = true := by
  simp only [eltB, Bool.and_eq_true] at h
  exact h.1.1

set_option maxHeartbeats 400000 in
theorem rpublic_any (x : Int) (w : World) : Calls Tryd.prog 60 #[.int .i64 x] w fun e w' => e = .returned (.tuple #[.int .i64 (pubV x), .int .i64 (pubE x)]) ∧ w = w' := by
  have R1 := Lib.hid (rsecret_any x)
  cases ha : secB x with
  | false =>
    have e1 : pubV x = 0 := by simp [pubV, ha]
    have e2 : pubE x = 3 := by simp [pubE, ha]
    rw [e1, e2]
    rw [ha] at R1
    clear e1 e2 ha
    go_enter Tryd.func60, Tryd.ntmps60
    go_wp2_with (go_at_call 66; go_must (refine (R1.out _).mono ?_); rintro e w1 ⟨rfl, rfl⟩)
    go_ret2
    exact ⟨rfl, rfl⟩
  | true =>
    obtain ⟨h1, h2⟩ := secB_t ha
    have e1 : pubV x = pwI 4 x := by simp [pubV, ha]
    have e2 : pubE x = 0 := by simp [pubE, ha]
    rw [e1, e2]
    have PW := Lib.hid (pow_i 4 x (by omega) (by omega) (by omega) (by omega))
    rw [ha] at R1
    clear e1 e2 ha
    go_enter Tryd.func60, Tryd.ntmps60
    go_wp2_with (first | (go_at_call 66; go_must (refine (R1.out _).mono ?_); rintro e w1 ⟨rfl, rfl⟩) | (go_at_call 55; go_must (refine (PW.out _).mono ?_); rintro e w1 ⟨rfl, rfl⟩))
    go_ret2
    exact ⟨rfl, rfl⟩

end Go.Proofs.YtgmmdijmlnehlaaDoor
