import Derived.Test.YtbocppkdooogfaaGrpF
namespace Go.Proofs.Ytbocppkdooogfaa
open Go.RowKit Go.TravelBase
set_option linter.unusedVariables false
set_option linter.unusedSimpArgs false

set_option maxHeartbeats 400000 in
theorem walk_GroupShares (k x : Int) (w : World) (_h1 : -9223372036854775808 ≤ k ∧ k ≤ 9223372036854775807) (_h2 : -9223372036854775808 ≤ x ∧ x ≤ 9223372036854775807) :
    Calls Try.prog 4 #[.int .i64 k, .int .i64 x] w fun e w' => e = .returned (.bool true) ∧ Below w.heap.size w w' := by
  clear _h1 _h2
  go_enter Try.func4, Try.ntmps4
  go_wp2_with (first | (go_at_call 13; go_must (refine (public_any k _).mono ?_); rintro e w1 ⟨rfl, rfl⟩) | (go_at_call 14; go_must (refine (rpublic_any k _).mono ?_); rintro e w1 ⟨rfl, rfl⟩) | (go_at_call 15; go_must (refine (share_any k x _).mono ?_); rintro e w1 ⟨rfl, rfl⟩) | (go_at_call 16; go_must (refine (rshare_any k x _).mono ?_); rintro e w1 ⟨rfl, rfl⟩) | (go_at_call 11; go_must (refine (awake8 _).mono ?_); rintro e w2 ⟨rfl, hb⟩))
  go_ret
  exact ⟨by simp, hb⟩

set_option maxHeartbeats 400000 in
theorem walk_GroupComputes (a b : Int) (w : World) (_h1 : -9223372036854775808 ≤ a ∧ a ≤ 9223372036854775807) (_h2 : -9223372036854775808 ≤ b ∧ b ≤ 9223372036854775807) :
    Calls Try.prog 6 #[.int .i64 a, .int .i64 b] w fun e w' => e = .returned (.bool true) ∧ Below w.heap.size w w' := by
  clear _h1 _h2
  go_enter Try.func6, Try.ntmps6
  go_wp2_with (first | (go_at_call 10; go_must (refine (multiply_any a b _).mono ?_); rintro e w1 ⟨rfl, rfl⟩) | (go_at_call 17; go_must (refine (rmultiply_any a b _).mono ?_); rintro e w1 ⟨rfl, rfl⟩) | (go_at_call 18; go_must (refine (Power_any a b _).mono ?_); rintro e w1 ⟨rfl, rfl⟩) | (go_at_call 19; go_must (refine (rPower_any a b _).mono ?_); rintro e w1 ⟨rfl, rfl⟩) | (go_at_call 20; go_must (refine (invert_any a _).mono ?_); rintro e w1 ⟨rfl, rfl⟩) | (go_at_call 21; go_must (refine (rinvert_any a _).mono ?_); rintro e w1 ⟨rfl, rfl⟩) | (go_at_call 12; go_must (refine (element_any a _).mono ?_); rintro e w1 ⟨rfl, rfl⟩) | (go_at_call 22; go_must (refine (relement_any a _).mono ?_); rintro e w1 ⟨rfl, rfl⟩) | (go_at_call 11; go_must (refine (awake8 _).mono ?_); rintro e w2 ⟨rfl, hb⟩))
  go_ret
  exact ⟨by simp, hb⟩

/-! ### Two sides -/
theorem pub_near (n : Int) : pubV (nearI n) = (pwN 4 (nearI n).toNat : Int) ∧ pubE (nearI n) = 0 ∧ secB (nearI n) = true ∧ 1 ≤ (nearI n).toNat ∧ (nearI n).toNat < GQ ∧ ((nearI n).toNat : Int) = nearI n := by
  obtain ⟨h1, h2⟩ := nearI_bd n
  have hQ := GQ_int
  have hs : secB (nearI n) = true := decide_eq_true ⟨by omega, by omega⟩
  refine ⟨?_, by unfold pubE; rw [if_pos hs], hs, by omega, by omega, by omega⟩
  unfold pubV
  rw [if_pos hs]
  rfl
theorem sha_near (k n : Int) : eltB (pwN 4 (nearI n).toNat : Int) = true ∧ shaV (nearI k) (pwN 4 (nearI n).toNat : Int) = (pwN 4 ((nearI n).toNat * (nearI k).toNat) : Int) ∧ shaE (nearI k) (pwN 4 (nearI n).toNat : Int) = 0 ∧
    eltB (pwN 4 ((nearI n).toNat * (nearI k).toNat) : Int) = true := by
  obtain ⟨_, _, hk, k1, k2, _⟩ := pub_near k
  obtain ⟨_, _, hn, n1, n2, _⟩ := pub_near n
  have he := elt_pw4 (not_dvd_lt n1 n2)
  refine ⟨he, ?_, by unfold shaE; rw [if_pos hk, if_pos he], elt_pw4 (not_dvd_of_lt n1 n2 k1 k2)⟩
  unfold shaV
  rw [hk, he]
  simp only [Bool.and_self, if_true]
  unfold pwI pwN
  rw [Int.toNat_natCast, pow_mod_pow]

set_option maxHeartbeats 400000 in
theorem walk_GroupAgrees (a b : Int) (w : World) (_h1 : -9223372036854775808 ≤ a ∧ a ≤ 9223372036854775807) (_h2 : -9223372036854775808 ≤ b ∧ b ≤ 9223372036854775807) :
    Calls Try.prog 5 #[.int .i64 a, .int .i64 b] w fun e w' => e = .returned (.bool true) ∧ Below w.heap.size w w' := by
  clear _h1 _h2
  have NA := Lib.hid (near_any a)
  have NB := Lib.hid (near_any b)
  obtain ⟨pa1, pa2, _⟩ := pub_near a
  obtain ⟨pb1, pb2, _⟩ := pub_near b
  obtain ⟨_, s1, s2, s3⟩ := sha_near a b
  obtain ⟨_, t1, t2, t3⟩ := sha_near b a
  rw [Nat.mul_comm] at s1 s3
  have PA := public_any (nearI a)
  have PB := public_any (nearI b)
  rw [pa1, pa2] at PA
  rw [pb1, pb2] at PB
  have SA := share_any (nearI a) (pwN 4 (nearI b).toNat : Int)
  have SB := share_any (nearI b) (pwN 4 (nearI a).toNat : Int)
  rw [s1, s2] at SA
  rw [t1, t2] at SB
  have EZ := element_any (pwN 4 ((nearI a).toNat * (nearI b).toNat) : Int)
  rw [s3] at EZ
  generalize (pwN 4 ((nearI a).toNat * (nearI b).toNat) : Int) = z at *
  generalize (pwN 4 (nearI a).toNat : Int) = x at *
  generalize (pwN 4 (nearI b).toNat : Int) = y at *
  generalize nearI a = k at *
  generalize nearI b = n at *
  have PA' := Lib.hid PA
  have PB' := Lib.hid PB
  have SA' := Lib.hid SA
  have SB' := Lib.hid SB
  have EZ' := Lib.hid EZ
  clear PA PB SA SB EZ s1 s2 s3 t1 t2 t3 pa1 pa2 pb1 pb2
  go_enter Try.func5, Try.ntmps5
  go_wp2_with (fail)
  go_must (refine (NA.out _).mono ?_)
  rintro e w1 ⟨rfl, rfl⟩
  go_wp2_with (fail)
  go_must (refine (NB.out _).mono ?_)
  rintro e w1 ⟨rfl, rfl⟩
  go_wp2_with (fail)
  go_must (refine (PA'.out _).mono ?_)
  rintro e w1 ⟨rfl, rfl⟩
  go_wp2_with (fail)
  go_must (refine (PB'.out _).mono ?_)
  rintro e w1 ⟨rfl, rfl⟩
  go_wp2_with (fail)
  go_must (refine (SA'.out _).mono ?_)
  rintro e w1 ⟨rfl, rfl⟩
  go_wp2_with (fail)
  go_must (refine (SB'.out _).mono ?_)
  rintro e w1 ⟨rfl, rfl⟩
  go_wp2_with (first | (go_at_call 11; go_must (refine (awake8 _).mono ?_); rintro e w2 ⟨rfl, hb⟩) | (go_at_call 12; go_must (refine (EZ'.out _).mono ?_); rintro e w1 ⟨rfl, rfl⟩))
  go_ret
  exact ⟨by simp, hb⟩

/-! ### Halves -/
theorem halves_facts (N : Int) (h1 : 1 ≤ N) (h2 : N ≤ 1073741788) :
    mulE (2 + (N - 1) % 1073741787) (2 + (N - 1) % 1073741787) = 0 ∧ eltB (mulV (2 + (N - 1) % 1073741787) (2 + (N - 1) % 1073741787)) = true ∧
    (eltB (2 + (N - 1) % 1073741787) != eltB (2147483579 - (2 + (N - 1) % 1073741787))) = true ∧ eltB 1 = false ∧ eltB 2147483578 = false := by
  have hP := GP_int
  have hQ := GQ_int
  obtain ⟨X, hX⟩ := Int.eq_ofNat_of_zero_le (show 0 ≤ 2 + (N - 1) % 1073741787 by omega)
  have hx1 : 2 ≤ X := by omega
  have hx2 : X < GP - 1 := by omega
  rw [hX]
  have hr : resB (X : Int) = true := decide_eq_true ⟨by omega, by omega⟩
  have hm : mulV (X : Int) (X : Int) = ((X * X % GP : Nat) : Int) := by
    unfold mulV
    rw [hr]
    simp only [Bool.and_self, if_true]
    rw [← hP]
    simp
  have hs : (2147483579 - (X : Int)) = ((GP - X : Nat) : Int) := by omega
  have n1 : eltB 1 = false := by
    unfold eltB
    simp
  have n2 : eltB 2147483578 = false := by
    have e : (2147483578 : Int) = ((GP - 1 : Nat) : Int) := by omega
    rw [e]
    cases h : eltB ((GP - 1 : Nat) : Int) with
    | false => rfl
    | true =>
      obtain ⟨_, _, h3, h4⟩ := (eltB_iff _).1 h
      rw [neg_one] at h4
      omega
  refine ⟨by unfold mulE; rw [hr]; rfl, by rw [hm]; exact (eltB_iff _).2 (sq_elt hx1 hx2), ?_, n1, n2⟩
  rw [hs]
  have key : ∀ a b : Nat, a ^ GQ % GP = 1 → b ^ GQ % GP = GP - 1 → 2 ≤ a → a < GP → eltB (a : Int) = true ∧ eltB (b : Int) = false := by
    intro a b ha hb h1 h2
    refine ⟨(eltB_iff a).2 ⟨by omega, h2, by omega, ha⟩, ?_⟩
    cases h : eltB (b : Int) with
    | false => rfl
    | true =>
      obtain ⟨_, _, _, h4⟩ := (eltB_iff _).1 h
      rw [hb] at h4
      omega
  rcases halves (x := X) (by omega) (by omega) with ⟨h3, h4⟩ | ⟨h3, h4⟩
  · obtain ⟨k1, k2⟩ := key X (GP - X) h3 h4 hx1 (by omega)
    rw [k1, k2]; rfl
  · obtain ⟨k1, k2⟩ := key (GP - X) X h4 h3 (by omega) (by omega)
    rw [k1, k2]; rfl

set_option maxHeartbeats 400000 in
theorem walk_GroupHalves (n : Int) (w : World) (_h1 : -9223372036854775808 ≤ n ∧ n ≤ 9223372036854775807) :
    Calls Try.prog 3 #[.int .i64 n] w fun e w' => e = .returned (.bool true) ∧ Below w.heap.size w w' := by
  clear _h1
  have NA := Lib.hid (near_any n)
  obtain ⟨b1, b2⟩ := nearI_bd n
  obtain ⟨f1, f2, f3, f4, f5⟩ := halves_facts (nearI n) b1 b2
  generalize nearI n = N at *
  have MU := multiply_any (2 + (N - 1) % 1073741787) (2 + (N - 1) % 1073741787)
  rw [f1] at MU
  have E0 := element_any (mulV (2 + (N - 1) % 1073741787) (2 + (N - 1) % 1073741787))
  rw [f2] at E0
  have E1 := element_any (2 + (N - 1) % 1073741787)
  have E2 := element_any (2147483579 - (2 + (N - 1) % 1073741787))
  have E3 := element_any 1
  have E4 := element_any 2147483578
  rw [f4] at E3
  rw [f5] at E4
  generalize mulV (2 + (N - 1) % 1073741787) (2 + (N - 1) % 1073741787) = s at *
  generalize eltB (2 + (N - 1) % 1073741787) = u at *
  generalize eltB (2147483579 - (2 + (N - 1) % 1073741787)) = v at *
  have MU' := Lib.hid MU
  have E0' := Lib.hid E0
  have E1' := Lib.hid E1
  have E2' := Lib.hid E2
  have E3' := Lib.hid E3
  have E4' := Lib.hid E4
  clear MU E0 E1 E2 E3 E4 f1 f2 f4 f5
  cases u <;> cases v <;> first | (exact absurd f3 (by decide)) | skip
  all_goals
    clear f3
    go_enter Try.func3, Try.ntmps3
    go_wp2_with (fail)
    go_must (refine (NA.out _).mono ?_)
    rintro e w1 ⟨rfl, rfl⟩
    go_wp2_with (fail)
    go_must (refine (MU'.out _).mono ?_)
    rintro e w1 ⟨rfl, rfl⟩
    go_wp2_with ((go_at_call 11; go_must (refine (awake8 _).mono ?_); rintro e w2 ⟨rfl, hb⟩))
    go_must (refine (E0'.out _).mono ?_)
    rintro e w1 ⟨rfl, rfl⟩
    go_wp2_with (fail)
    go_must (refine (E1'.out _).mono ?_)
    rintro e w1 ⟨rfl, rfl⟩
    go_wp2_with (fail)
    go_must (refine (E2'.out _).mono ?_)
    rintro e w1 ⟨rfl, rfl⟩
    go_wp2_with (fail)
    go_must (refine (E3'.out _).mono ?_)
    rintro e w1 ⟨rfl, rfl⟩
    go_wp2_with (fail)
    go_must (refine (E4'.out _).mono ?_)
    rintro e w1 ⟨rfl, rfl⟩
    go_wp2_with (fail)
    go_ret
    exact ⟨by simp, hb⟩

end Go.Proofs.Ytbocppkdooogfaa
