import Derived.Test.YtbocppkdooogfaaGrpC
namespace Go.Proofs.Ytbocppkdooogfaa
open Go.RowKit Go.TravelBase
set_option linter.unusedVariables false
set_option linter.unusedSimpArgs false

/-! ### Multiply, Power, Invert, Public, Share -/
def mulV (a b : Int) : Int := if resB a && resB b then a * b % 2147483579 else 0
def mulE (a b : Int) : Int := if resB a && resB b then 0 else 3
def expB (k : Int) : Bool := decide (0 ≤ k ∧ k ≤ 1073741789)
theorem expB_t {x : Int} (h : expB x = true) : 0 ≤ x ∧ x ≤ 1073741789 := of_decide_eq_true h
theorem expB_f {x : Int} (h : expB x = false) : ¬ (0 ≤ x ∧ x ≤ 1073741789) := of_decide_eq_false h
def powV (x k : Int) : Int := if resB x && expB k then pwI x k else 0
def powE (x k : Int) : Int := if resB x && expB k then 0 else 3
def invV (x : Int) : Int := if resB x then pwI x 2147483577 else 0
def invE (x : Int) : Int := if resB x then 0 else 3
def pubV (k : Int) : Int := if secB k then pwI 4 k else 0
def pubE (k : Int) : Int := if secB k then 0 else 3
def shaV (k x : Int) : Int := if secB k && eltB x then pwI x k else 0
def shaE (k x : Int) : Int := if secB k then (if eltB x then 0 else 10) else 3
theorem eltB_res {x : Int} (h : eltB x = true) : resB x = true := by
  simp only [eltB, Bool.and_eq_true] at h
  exact h.1.1

set_option maxHeartbeats 400000 in
theorem multiply_any (a b : Int) (w : World) : Calls Try.prog 10 #[.int .i64 a, .int .i64 b] w fun e w' => e = .returned (.tuple #[.int .i64 (mulV a b), .int .i64 (mulE a b)]) ∧ w = w' := by
  have R1 := Lib.hid (residue_any a)
  have R2 := Lib.hid (residue_any b)
  cases ha : resB a with
  | false =>
    have e1 : mulV a b = 0 := by simp [mulV, ha]
    have e2 : mulE a b = 3 := by simp [mulE, ha]
    rw [e1, e2]
    rw [ha] at R1
    clear e1 e2 ha
    go_enter Try.func10, Try.ntmps10
    go_wp2_with (go_at_call 29; go_must (refine (R1.out _).mono ?_); rintro e w1 ⟨rfl, rfl⟩)
    go_ret2
    exact ⟨rfl, rfl⟩
  | true =>
    cases hb : resB b with
    | false =>
      have e1 : mulV a b = 0 := by simp [mulV, hb]
      have e2 : mulE a b = 3 := by simp [mulE, hb]
      rw [e1, e2]
      rw [ha] at R1
      rw [hb] at R2
      clear e1 e2 ha hb
      go_enter Try.func10, Try.ntmps10
      go_wp2_with (fail)
      go_must (refine (R1.out _).mono ?_)
      rintro e w1 ⟨rfl, rfl⟩
      go_wp2_with (fail)
      go_must (refine (R2.out _).mono ?_)
      rintro e w1 ⟨rfl, rfl⟩
      go_wp2_with (fail)
      go_ret2
      exact ⟨rfl, rfl⟩
    | true =>
      have e1 : mulV a b = a * b % 2147483579 := by simp [mulV, ha, hb]
      have e2 : mulE a b = 0 := by simp [mulE, ha, hb]
      rw [e1, e2]
      obtain ⟨h1, h2⟩ := resB_t ha
      obtain ⟨h3, h4⟩ := resB_t hb
      have hp := prod_bd (a := a) (b := b) (by omega) h2 (by omega) h4
      rw [ha] at R1
      rw [hb] at R2
      clear e1 e2 ha hb
      go_enter Try.func10, Try.ntmps10
      go_wp2_with (fail)
      go_must (refine (R1.out _).mono ?_)
      rintro e w1 ⟨rfl, rfl⟩
      go_wp2_with (fail)
      go_must (refine (R2.out _).mono ?_)
      rintro e w1 ⟨rfl, rfl⟩
      go_wp2_with (fail)
      go_ret2
      exact ⟨rfl, rfl⟩

set_option maxHeartbeats 400000 in
theorem rmultiply_any (a b : Int) (w : World) : Calls Try.prog 17 #[.int .i64 a, .int .i64 b] w fun e w' => e = .returned (.tuple #[.int .i64 (mulV a b), .int .i64 (mulE a b)]) ∧ w = w' := by
  have R1 := Lib.hid (rresidue_any a)
  have R2 := Lib.hid (rresidue_any b)
  cases ha : resB a with
  | false =>
    have e1 : mulV a b = 0 := by simp [mulV, ha]
    have e2 : mulE a b = 3 := by simp [mulE, ha]
    rw [e1, e2]
    rw [ha] at R1
    clear e1 e2 ha
    go_enter Try.func17, Try.ntmps17
    go_wp2_with (go_at_call 34; go_must (refine (R1.out _).mono ?_); rintro e w1 ⟨rfl, rfl⟩)
    go_ret2
    exact ⟨rfl, rfl⟩
  | true =>
    cases hb : resB b with
    | false =>
      have e1 : mulV a b = 0 := by simp [mulV, hb]
      have e2 : mulE a b = 3 := by simp [mulE, hb]
      rw [e1, e2]
      rw [ha] at R1
      rw [hb] at R2
      clear e1 e2 ha hb
      go_enter Try.func17, Try.ntmps17
      go_wp2_with (fail)
      go_must (refine (R1.out _).mono ?_)
      rintro e w1 ⟨rfl, rfl⟩
      go_wp2_with (fail)
      go_must (refine (R2.out _).mono ?_)
      rintro e w1 ⟨rfl, rfl⟩
      go_wp2_with (fail)
      go_ret2
      exact ⟨rfl, rfl⟩
    | true =>
      have e1 : mulV a b = a * b % 2147483579 := by simp [mulV, ha, hb]
      have e2 : mulE a b = 0 := by simp [mulE, ha, hb]
      rw [e1, e2]
      obtain ⟨h1, h2⟩ := resB_t ha
      obtain ⟨h3, h4⟩ := resB_t hb
      have hp := prod_bd (a := a) (b := b) (by omega) h2 (by omega) h4
      rw [ha] at R1
      rw [hb] at R2
      clear e1 e2 ha hb
      go_enter Try.func17, Try.ntmps17
      go_wp2_with (fail)
      go_must (refine (R1.out _).mono ?_)
      rintro e w1 ⟨rfl, rfl⟩
      go_wp2_with (fail)
      go_must (refine (R2.out _).mono ?_)
      rintro e w1 ⟨rfl, rfl⟩
      go_wp2_with (fail)
      go_ret2
      exact ⟨rfl, rfl⟩

set_option maxHeartbeats 400000 in
theorem Power_any (x k : Int) (w : World) : Calls Try.prog 18 #[.int .i64 x, .int .i64 k] w fun e w' => e = .returned (.tuple #[.int .i64 (powV x k), .int .i64 (powE x k)]) ∧ w = w' := by
  have R1 := Lib.hid (residue_any x)
  cases ha : resB x with
  | false =>
    have e1 : powV x k = 0 := by simp [powV, ha]
    have e2 : powE x k = 3 := by simp [powE, ha]
    rw [e1, e2]
    rw [ha] at R1
    clear e1 e2 ha
    go_enter Try.func18, Try.ntmps18
    go_wp2_with (go_at_call 29; go_must (refine (R1.out _).mono ?_); rintro e w1 ⟨rfl, rfl⟩)
    go_ret2
    exact ⟨rfl, rfl⟩
  | true =>
    obtain ⟨h1, h2⟩ := resB_t ha
    cases hb : expB k with
    | false =>
      have e1 : powV x k = 0 := by simp [powV, hb]
      have e2 : powE x k = 3 := by simp [powE, hb]
      rw [e1, e2]
      have h3 := expB_f hb
      rw [ha] at R1
      clear e1 e2 ha hb
      by_cases h4 : k < 0
      · clear h3
        go_enter Try.func18, Try.ntmps18
        go_wp2_with (go_at_call 29; go_must (refine (R1.out _).mono ?_); rintro e w1 ⟨rfl, rfl⟩)
        go_ret2
        exact ⟨rfl, rfl⟩
      · have h5 : 1073741789 < k := by omega
        clear h3
        go_enter Try.func18, Try.ntmps18
        go_wp2_with (go_at_call 29; go_must (refine (R1.out _).mono ?_); rintro e w1 ⟨rfl, rfl⟩)
        go_ret2
        exact ⟨rfl, rfl⟩
    | true =>
      have e1 : powV x k = pwI x k := by simp [powV, ha, hb]
      have e2 : powE x k = 0 := by simp [powE, ha, hb]
      rw [e1, e2]
      obtain ⟨h3, h4⟩ := expB_t hb
      have PW := Lib.hid (power_i x k (by omega) h2 h3 (by omega))
      rw [ha] at R1
      clear e1 e2 ha hb
      go_enter Try.func18, Try.ntmps18
      go_wp2_with (first | (go_at_call 29; go_must (refine (R1.out _).mono ?_); rintro e w1 ⟨rfl, rfl⟩) | (go_at_call 30; go_must (refine (PW.out _).mono ?_); rintro e w1 ⟨rfl, rfl⟩))
      go_ret2
      exact ⟨rfl, rfl⟩

set_option maxHeartbeats 400000 in
theorem rPower_any (x k : Int) (w : World) : Calls Try.prog 19 #[.int .i64 x, .int .i64 k] w fun e w' => e = .returned (.tuple #[.int .i64 (powV x k), .int .i64 (powE x k)]) ∧ w = w' := by
  have R1 := Lib.hid (rresidue_any x)
  cases ha : resB x with
  | false =>
    have e1 : powV x k = 0 := by simp [powV, ha]
    have e2 : powE x k = 3 := by simp [powE, ha]
    rw [e1, e2]
    rw [ha] at R1
    clear e1 e2 ha
    go_enter Try.func19, Try.ntmps19
    go_wp2_with (go_at_call 34; go_must (refine (R1.out _).mono ?_); rintro e w1 ⟨rfl, rfl⟩)
    go_ret2
    exact ⟨rfl, rfl⟩
  | true =>
    obtain ⟨h1, h2⟩ := resB_t ha
    cases hb : expB k with
    | false =>
      have e1 : powV x k = 0 := by simp [powV, hb]
      have e2 : powE x k = 3 := by simp [powE, hb]
      rw [e1, e2]
      have h3 := expB_f hb
      rw [ha] at R1
      clear e1 e2 ha hb
      by_cases h4 : k < 0
      · clear h3
        go_enter Try.func19, Try.ntmps19
        go_wp2_with (go_at_call 34; go_must (refine (R1.out _).mono ?_); rintro e w1 ⟨rfl, rfl⟩)
        go_ret2
        exact ⟨rfl, rfl⟩
      · have h5 : 1073741789 < k := by omega
        clear h3
        go_enter Try.func19, Try.ntmps19
        go_wp2_with (go_at_call 34; go_must (refine (R1.out _).mono ?_); rintro e w1 ⟨rfl, rfl⟩)
        go_ret2
        exact ⟨rfl, rfl⟩
    | true =>
      have e1 : powV x k = pwI x k := by simp [powV, ha, hb]
      have e2 : powE x k = 0 := by simp [powE, ha, hb]
      rw [e1, e2]
      obtain ⟨h3, h4⟩ := expB_t hb
      have PW := Lib.hid (pow_i x k (by omega) h2 h3 (by omega))
      rw [ha] at R1
      clear e1 e2 ha hb
      go_enter Try.func19, Try.ntmps19
      go_wp2_with (first | (go_at_call 34; go_must (refine (R1.out _).mono ?_); rintro e w1 ⟨rfl, rfl⟩) | (go_at_call 33; go_must (refine (PW.out _).mono ?_); rintro e w1 ⟨rfl, rfl⟩))
      go_ret2
      exact ⟨rfl, rfl⟩

set_option maxHeartbeats 400000 in
theorem invert_any (x : Int) (w : World) : Calls Try.prog 20 #[.int .i64 x] w fun e w' => e = .returned (.tuple #[.int .i64 (invV x), .int .i64 (invE x)]) ∧ w = w' := by
  have R1 := Lib.hid (residue_any x)
  cases ha : resB x with
  | false =>
    have e1 : invV x = 0 := by simp [invV, ha]
    have e2 : invE x = 3 := by simp [invE, ha]
    rw [e1, e2]
    rw [ha] at R1
    clear e1 e2 ha
    go_enter Try.func20, Try.ntmps20
    go_wp2_with (go_at_call 29; go_must (refine (R1.out _).mono ?_); rintro e w1 ⟨rfl, rfl⟩)
    go_ret2
    exact ⟨rfl, rfl⟩
  | true =>
    obtain ⟨h1, h2⟩ := resB_t ha
    have e1 : invV x = pwI x 2147483577 := by simp [invV, ha]
    have e2 : invE x = 0 := by simp [invE, ha]
    rw [e1, e2]
    have PW := Lib.hid (power_i x 2147483577 (by omega) (by omega) (by omega) (by omega))
    rw [ha] at R1
    clear e1 e2 ha
    go_enter Try.func20, Try.ntmps20
    go_wp2_with (first | (go_at_call 29; go_must (refine (R1.out _).mono ?_); rintro e w1 ⟨rfl, rfl⟩) | (go_at_call 30; go_must (refine (PW.out _).mono ?_); rintro e w1 ⟨rfl, rfl⟩))
    go_ret2
    exact ⟨rfl, rfl⟩

set_option maxHeartbeats 400000 in
theorem rinvert_any (x : Int) (w : World) : Calls Try.prog 21 #[.int .i64 x] w fun e w' => e = .returned (.tuple #[.int .i64 (invV x), .int .i64 (invE x)]) ∧ w = w' := by
  have R1 := Lib.hid (rresidue_any x)
  cases ha : resB x with
  | false =>
    have e1 : invV x = 0 := by simp [invV, ha]
    have e2 : invE x = 3 := by simp [invE, ha]
    rw [e1, e2]
    rw [ha] at R1
    clear e1 e2 ha
    go_enter Try.func21, Try.ntmps21
    go_wp2_with (go_at_call 34; go_must (refine (R1.out _).mono ?_); rintro e w1 ⟨rfl, rfl⟩)
    go_ret2
    exact ⟨rfl, rfl⟩
  | true =>
    obtain ⟨h1, h2⟩ := resB_t ha
    have e1 : invV x = pwI x 2147483577 := by simp [invV, ha]
    have e2 : invE x = 0 := by simp [invE, ha]
    rw [e1, e2]
    have PW := Lib.hid (pow_i x 2147483577 (by omega) (by omega) (by omega) (by omega))
    rw [ha] at R1
    clear e1 e2 ha
    go_enter Try.func21, Try.ntmps21
    go_wp2_with (first | (go_at_call 34; go_must (refine (R1.out _).mono ?_); rintro e w1 ⟨rfl, rfl⟩) | (go_at_call 33; go_must (refine (PW.out _).mono ?_); rintro e w1 ⟨rfl, rfl⟩))
    go_ret2
    exact ⟨rfl, rfl⟩

set_option maxHeartbeats 400000 in
theorem public_any (x : Int) (w : World) : Calls Try.prog 13 #[.int .i64 x] w fun e w' => e = .returned (.tuple #[.int .i64 (pubV x), .int .i64 (pubE x)]) ∧ w = w' := by
  have R1 := Lib.hid (secret_any x)
  cases ha : secB x with
  | false =>
    have e1 : pubV x = 0 := by simp [pubV, ha]
    have e2 : pubE x = 3 := by simp [pubE, ha]
    rw [e1, e2]
    rw [ha] at R1
    clear e1 e2 ha
    go_enter Try.func13, Try.ntmps13
    go_wp2_with (go_at_call 31; go_must (refine (R1.out _).mono ?_); rintro e w1 ⟨rfl, rfl⟩)
    go_ret2
    exact ⟨rfl, rfl⟩
  | true =>
    obtain ⟨h1, h2⟩ := secB_t ha
    have e1 : pubV x = pwI 4 x := by simp [pubV, ha]
    have e2 : pubE x = 0 := by simp [pubE, ha]
    rw [e1, e2]
    have PW := Lib.hid (power_i 4 x (by omega) (by omega) (by omega) (by omega))
    rw [ha] at R1
    clear e1 e2 ha
    go_enter Try.func13, Try.ntmps13
    go_wp2_with (first | (go_at_call 31; go_must (refine (R1.out _).mono ?_); rintro e w1 ⟨rfl, rfl⟩) | (go_at_call 30; go_must (refine (PW.out _).mono ?_); rintro e w1 ⟨rfl, rfl⟩))
    go_ret2
    exact ⟨rfl, rfl⟩

set_option maxHeartbeats 400000 in
theorem rpublic_any (x : Int) (w : World) : Calls Try.prog 14 #[.int .i64 x] w fun e w' => e = .returned (.tuple #[.int .i64 (pubV x), .int .i64 (pubE x)]) ∧ w = w' := by
  have R1 := Lib.hid (rsecret_any x)
  cases ha : secB x with
  | false =>
    have e1 : pubV x = 0 := by simp [pubV, ha]
    have e2 : pubE x = 3 := by simp [pubE, ha]
    rw [e1, e2]
    rw [ha] at R1
    clear e1 e2 ha
    go_enter Try.func14, Try.ntmps14
    go_wp2_with (go_at_call 32; go_must (refine (R1.out _).mono ?_); rintro e w1 ⟨rfl, rfl⟩)
    go_ret2
    exact ⟨rfl, rfl⟩
  | true =>
    obtain ⟨h1, h2⟩ := secB_t ha
    have e1 : pubV x = pwI 4 x := by simp [pubV, ha]
    have e2 : pubE x = 0 := by simp [pubE, ha]
    rw [e1, e2]
    have PW := Lib.hid (pow_i 4 x (by omega) (by omega) (by omega) (by omega))
    rw [ha] at R1
    clear e1 e2 ha
    go_enter Try.func14, Try.ntmps14
    go_wp2_with (first | (go_at_call 32; go_must (refine (R1.out _).mono ?_); rintro e w1 ⟨rfl, rfl⟩) | (go_at_call 33; go_must (refine (PW.out _).mono ?_); rintro e w1 ⟨rfl, rfl⟩))
    go_ret2
    exact ⟨rfl, rfl⟩

set_option maxHeartbeats 400000 in
theorem share_any (k x : Int) (w : World) : Calls Try.prog 15 #[.int .i64 k, .int .i64 x] w fun e w' => e = .returned (.tuple #[.int .i64 (shaV k x), .int .i64 (shaE k x)]) ∧ w = w' := by
  have R1 := Lib.hid (secret_any k)
  have R2 := Lib.hid (element_any x)
  cases ha : secB k with
  | false =>
    have e1 : shaV k x = 0 := by simp [shaV, ha]
    have e2 : shaE k x = 3 := by simp [shaE, ha]
    rw [e1, e2]
    rw [ha] at R1
    clear e1 e2 ha
    go_enter Try.func15, Try.ntmps15
    go_wp2_with (go_at_call 31; go_must (refine (R1.out _).mono ?_); rintro e w1 ⟨rfl, rfl⟩)
    go_ret2
    exact ⟨rfl, rfl⟩
  | true =>
    cases hb : eltB x with
    | false =>
      have e1 : shaV k x = 0 := by simp [shaV, hb]
      have e2 : shaE k x = 10 := by simp [shaE, ha, hb]
      rw [e1, e2]
      rw [ha] at R1
      rw [hb] at R2
      clear e1 e2 ha hb
      go_enter Try.func15, Try.ntmps15
      go_wp2_with (first | (go_at_call 31; go_must (refine (R1.out _).mono ?_); rintro e w1 ⟨rfl, rfl⟩) | (go_at_call 12; go_must (refine (R2.out _).mono ?_); rintro e w1 ⟨rfl, rfl⟩))
      go_ret2
      exact ⟨rfl, rfl⟩
    | true =>
      have e1 : shaV k x = pwI x k := by simp [shaV, ha, hb]
      have e2 : shaE k x = 0 := by simp [shaE, ha, hb]
      rw [e1, e2]
      obtain ⟨h1, h2⟩ := secB_t ha
      obtain ⟨h3, h4⟩ := resB_t (eltB_res hb)
      have PW := Lib.hid (power_i x k (by omega) h4 (by omega) (by omega))
      rw [ha] at R1
      rw [hb] at R2
      clear e1 e2 ha hb
      go_enter Try.func15, Try.ntmps15
      go_wp2_with (first | (go_at_call 31; go_must (refine (R1.out _).mono ?_); rintro e w1 ⟨rfl, rfl⟩) | (go_at_call 12; go_must (refine (R2.out _).mono ?_); rintro e w1 ⟨rfl, rfl⟩) | (go_at_call 30; go_must (refine (PW.out _).mono ?_); rintro e w1 ⟨rfl, rfl⟩))
      go_ret2
      exact ⟨rfl, rfl⟩

set_option maxHeartbeats 400000 in
theorem rshare_any (k x : Int) (w : World) : Calls Try.prog 16 #[.int .i64 k, .int .i64 x] w fun e w' => e = .returned (.tuple #[.int .i64 (shaV k x), .int .i64 (shaE k x)]) ∧ w = w' := by
  have R1 := Lib.hid (rsecret_any k)
  have R2 := Lib.hid (relement_any x)
  cases ha : secB k with
  | false =>
    have e1 : shaV k x = 0 := by simp [shaV, ha]
    have e2 : shaE k x = 3 := by simp [shaE, ha]
    rw [e1, e2]
    rw [ha] at R1
    clear e1 e2 ha
    go_enter Try.func16, Try.ntmps16
    go_wp2_with (go_at_call 32; go_must (refine (R1.out _).mono ?_); rintro e w1 ⟨rfl, rfl⟩)
    go_ret2
    exact ⟨rfl, rfl⟩
  | true =>
    cases hb : eltB x with
    | false =>
      have e1 : shaV k x = 0 := by simp [shaV, hb]
      have e2 : shaE k x = 10 := by simp [shaE, ha, hb]
      rw [e1, e2]
      rw [ha] at R1
      rw [hb] at R2
      clear e1 e2 ha hb
      go_enter Try.func16, Try.ntmps16
      go_wp2_with (first | (go_at_call 32; go_must (refine (R1.out _).mono ?_); rintro e w1 ⟨rfl, rfl⟩) | (go_at_call 22; go_must (refine (R2.out _).mono ?_); rintro e w1 ⟨rfl, rfl⟩))
      go_ret2
      exact ⟨rfl, rfl⟩
    | true =>
      have e1 : shaV k x = pwI x k := by simp [shaV, ha, hb]
      have e2 : shaE k x = 0 := by simp [shaE, ha, hb]
      rw [e1, e2]
      obtain ⟨h1, h2⟩ := secB_t ha
      obtain ⟨h3, h4⟩ := resB_t (eltB_res hb)
      have PW := Lib.hid (pow_i x k (by omega) h4 (by omega) (by omega))
      rw [ha] at R1
      rw [hb] at R2
      clear e1 e2 ha hb
      go_enter Try.func16, Try.ntmps16
      go_wp2_with (first | (go_at_call 32; go_must (refine (R1.out _).mono ?_); rintro e w1 ⟨rfl, rfl⟩) | (go_at_call 22; go_must (refine (R2.out _).mono ?_); rintro e w1 ⟨rfl, rfl⟩) | (go_at_call 33; go_must (refine (PW.out _).mono ?_); rintro e w1 ⟨rfl, rfl⟩))
      go_ret2
      exact ⟨rfl, rfl⟩

end Go.Proofs.Ytbocppkdooogfaa
