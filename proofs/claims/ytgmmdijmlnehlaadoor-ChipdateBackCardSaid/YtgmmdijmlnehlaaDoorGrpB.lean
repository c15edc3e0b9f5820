import Derived.Test.YtgmmdijmlnehlaaDoorRows
import Derived.Test.YtgmmdijmlnehlaaDoorBase
import Derived.Test.YtgmmdijmlnehlaaDoorGPlain
import Derived.Lib.Tables
namespace Go.Proofs.YtgmmdijmlnehlaaDoor
open Go.RowKit Go.TravelBase
set_option linter.unusedVariables false
set_option linter.unusedSimpArgs false

theorem len8_all : ∀ j : Fin 256, 0 ≤ Lib.len8 (j.val : Int) ∧ Lib.len8 (j.val : Int) ≤ 8 ∧ j.val < 2 ^ (Lib.len8 (j.val : Int)).toNat := by decide +kernel
/-- The table at a place. -/
theorem len8_at (P : Program) (t : TypeId) (ht : P.underlying t = some .string) (j : Int) (h0 : 0 ≤ j) (h1 : j < 256) :
    ∃ L : Nat, L ≤ 8 ∧ j < 2 ^ L ∧ ∀ w, (Instr.index t (.string Lib.len8tab) (.int .u8 j)).run P w = .ok (.int .u8 (L : Int)) w := by
  obtain ⟨n, rfl⟩ := Int.eq_ofNat_of_zero_le h0
  obtain ⟨a, b, c⟩ := len8_all ⟨n, by omega⟩
  refine ⟨(Lib.len8 (n : Int)).toNat, by simp only at b; omega, by exact_mod_cast c, fun w => ?_⟩
  rw [Lib.run_index_len8tab w t .u8 n ht h0 (by omega), Int.toNat_of_nonneg a]
theorem pow_up {k j : Int} {L s : Nat} (h : j < 2 ^ L) (hk : k < (j + 1) * 2 ^ s) : k < 2 ^ (s + L) := by
  rw [Int.pow_add, Int.mul_comm]
  have : (j + 1) * 2 ^ s ≤ 2 ^ L * 2 ^ s := Int.mul_le_mul_of_nonneg_right (by omega) (Int.pow_nonneg (by omega))
  omega

set_option maxHeartbeats 800000 in
/-- The length in bits of a number below 2 to the power 31. -/
theorem len64_any (k : Int) (h0 : 0 ≤ k) (hk : k ≤ 2147483647) (w : World) :
    Calls Tryd.prog 83 #[.int .u64 k] w fun e w' => (∃ L : Nat, e = .returned (.int .i64 L) ∧ k < 2 ^ L ∧ L ≤ 32) ∧ w = w' := by
  by_cases h1 : 65536 ≤ k
  · by_cases h2 : 16777216 ≤ k
    · obtain ⟨L, hL, hp, hr⟩ := len8_at Tryd.prog 9 Tryd.underlying9 (k / 65536 / 256) (by omega) (by omega)
      have HP := Lib.hid hp
      clear hp
      go_enter Tryd.func83, Tryd.ntmps83
      go_wp2
      go_ret
      exact ⟨⟨24 + L, by go_num, pow_up HP.out (by omega), by omega⟩, rfl⟩
    · obtain ⟨L, hL, hp, hr⟩ := len8_at Tryd.prog 9 Tryd.underlying9 (k / 65536) (by omega) (by omega)
      have HP := Lib.hid hp
      clear hp
      go_enter Tryd.func83, Tryd.ntmps83
      go_wp2
      go_ret
      exact ⟨⟨16 + L, by go_num, pow_up HP.out (by omega), by omega⟩, rfl⟩
  · by_cases h2 : 256 ≤ k
    · obtain ⟨L, hL, hp, hr⟩ := len8_at Tryd.prog 9 Tryd.underlying9 (k / 256) (by omega) (by omega)
      have HP := Lib.hid hp
      clear hp
      go_enter Tryd.func83, Tryd.ntmps83
      go_wp2
      go_ret
      exact ⟨⟨8 + L, by go_num, pow_up HP.out (by omega), by omega⟩, rfl⟩
    · obtain ⟨L, hL, hp, hr⟩ := len8_at Tryd.prog 9 Tryd.underlying9 k (by omega) (by omega)
      have HP := Lib.hid hp
      clear hp
      go_enter Tryd.func83, Tryd.ntmps83
      go_wp2
      go_ret
      exact ⟨⟨L, by go_num, HP.out, by omega⟩, rfl⟩

theorem len_any (k : Int) (h0 : 0 ≤ k) (hk : k ≤ 2147483647) (w : World) :
    Calls Tryd.prog 73 #[.int .u64 k] w fun e w' => (∃ L : Nat, e = .returned (.int .i64 L) ∧ k < 2 ^ L ∧ L ≤ 32) ∧ w = w' := by
  go_enter Tryd.func73, Tryd.ntmps73
  go_wp2_with (go_at_call 83; go_must (refine (len64_any k h0 hk _).mono ?_); rintro e w1 ⟨⟨L, rfl, hp, hL⟩, rfl⟩)
  go_ret
  exact ⟨⟨L, rfl, hp, hL⟩, rfl⟩
end Go.Proofs.YtgmmdijmlnehlaaDoor

namespace Go.Proofs.YtgmmdijmlnehlaaDoor
open Go.RowKit Go.TravelBase
set_option linter.unusedVariables false
set_option linter.unusedSimpArgs false

/-! ### Powers -/
/-- The power of a residue. -/
def pwN (x k : Nat) : Nat := x ^ k % GP
theorem GP_int : (GP : Int) = 2147483579 := by decide +kernel
theorem pwN_lt (x k : Nat) : (pwN x k : Int) < 2147483579 := by
  have := Nat.mod_lt (x ^ k) P_pos
  rw [← GP_int]
  unfold pwN
  omega
theorem pwN_mul (x a b : Nat) : ((pwN x a : Int) * (pwN x b : Int)) % 2147483579 = (pwN x (a + b) : Int) := by
  rw [← GP_int]
  unfold pwN
  rw [← Int.natCast_mul, ← Int.natCast_emod, pow_mod_mul]
theorem prod_bd {a b : Int} (ha : 0 ≤ a) (ha' : a < 2147483579) (hb : 0 ≤ b) (hb' : b < 2147483579) : 0 ≤ a * b ∧ a * b ≤ 4611685722067648324 := by
  refine ⟨Int.mul_nonneg ha hb, ?_⟩
  have h : a * b ≤ 2147483578 * 2147483578 := Int.mul_le_mul (by omega) (by omega) hb (by omega)
  omega
theorem bit_cases (k i : Nat) (hk : (k : Int) ≤ 2147483647) :
    (bits BinOp.and IntKind.i64 ((k : Int) / 2 ^ i) 1 = 1 ∧ k % 2 ^ (i + 1) = k % 2 ^ i + 2 ^ i) ∨ (bits BinOp.and IntKind.i64 ((k : Int) / 2 ^ i) 1 = 0 ∧ k % 2 ^ (i + 1) = k % 2 ^ i) := by
  have e : ((k : Int) / 2 ^ i) = ((k / 2 ^ i : Nat) : Int) := by simp
  have hq : k / 2 ^ i ≤ k := Nat.div_le_self _ _
  have h1 := and_i64 (k / 2 ^ i) 1 (by omega) (by omega)
  rw [Nat.and_one_is_mod] at h1
  have h2 := Nat.mod_pow_succ (b := 2) (k := i) (x := k)
  rw [e]
  have e1 : ((1 : Nat) : Int) = 1 := rfl
  rw [e1] at h1
  rcases Nat.mod_two_eq_zero_or_one (k / 2 ^ i) with h | h
  · right
    rw [h] at h1 h2
    exact ⟨by rw [h1]; rfl, by rw [h2]; omega⟩
  · left
    rw [h] at h1 h2
    exact ⟨by rw [h1]; rfl, by rw [h2]; omega⟩

set_option maxHeartbeats 800000 in
theorem power_any (x k : Nat) (hx : (x : Int) < 2147483579) (hk : (k : Int) ≤ 2147483647) (w : World) :
    Calls Tryd.prog 64 #[.int .i64 (x : Int), .int .i64 (k : Int)] w fun e w' => e = .returned (.int .i64 (pwN x k : Int)) ∧ w = w' := by
  go_enter Tryd.func64, Tryd.ntmps64
  go_wp2_with (go_at_call 73; go_must (refine (len_any _ (by omega) hk _).mono ?_); rintro e w1 ⟨⟨L, rfl, hp, hL⟩, rfl⟩; have HP := Lib.hid hp; clear hp)
  go_loop [0, 5, 10] (fun y o i => ∃ n : Nat, n ≤ L ∧ i = .int .i64 n ∧ y = .int .i64 (pwN x (2 ^ n) : Int) ∧ o = .int .i64 (pwN x (k % 2 ^ n) : Int)) (fun _ _ i => L - (intOf i).toNat)
  case atStart =>
    refine ⟨0, Nat.zero_le _, rfl, ?_, ?_⟩
    · have h := GP_int
      unfold pwN
      rw [Nat.pow_zero, Nat.pow_one, Nat.mod_eq_of_lt (by omega)]
    · unfold pwN
      rw [Nat.pow_zero, Nat.mod_one, Nat.pow_zero, one_P]
      rfl
  case round =>
    obtain ⟨n, hn, rfl, rfl, rfl⟩ := hrel
    by_cases hlt : n < L
    · have h1 := pwN_lt x (2 ^ n)
      have h2 := pwN_lt x (k % 2 ^ n)
      have h3 := prod_bd (Int.natCast_nonneg (pwN x (2 ^ n))) h1 (Int.natCast_nonneg (pwN x (2 ^ n))) h1
      have h4 := prod_bd (Int.natCast_nonneg (pwN x (k % 2 ^ n))) h2 (Int.natCast_nonneg (pwN x (2 ^ n))) h1
      have S1 : Hid ((pwN x (2 ^ n) : Int) * (pwN x (2 ^ n) : Int) % 2147483579 = (pwN x (2 ^ (n + 1)) : Int)) := by
        show _ = _
        rw [pwN_mul, Nat.pow_succ, Nat.mul_two]
      have S2 := Lib.hid (pwN_mul x (k % 2 ^ n) (2 ^ n))
      rcases bit_cases k n hk with ⟨hb, hm⟩ | ⟨hb, hm⟩
      · rw [← hm] at S2
        have HM := Lib.hid hm
        clear hm
        generalize hy : pwN x (2 ^ n) = y at *
        generalize ho : pwN x (k % 2 ^ n) = o at *
        clear hy ho
        go_wp2_with (fail)
        go_round
        case rel => exact ⟨n + 1, by omega, by go_num, by rw [S1.out], by rw [S2.out]⟩
        case measure => simp [intOf]; omega
      · have HM := Lib.hid hm
        clear hm
        generalize hy : pwN x (2 ^ n) = y at *
        generalize ho : pwN x (k % 2 ^ n) = o at *
        have HO := Lib.hid ho
        clear hy ho
        go_wp2_with (fail)
        go_round
        case rel => exact ⟨n + 1, by omega, by go_num, by rw [S1.out], by rw [HM.out, HO.out]⟩
        case measure => simp [intOf]; omega
    · obtain rfl : n = L := by omega
      have hkn : k % 2 ^ n = k := by
        have := HP.out
        refine Nat.mod_eq_of_lt ?_
        exact_mod_cast this
      rw [hkn]
      clear hkn
      go_wp2_with (fail)
      go_ret
      exact ⟨rfl, rfl⟩

set_option maxHeartbeats 800000 in
theorem pow_any (x k : Nat) (hx : (x : Int) < 2147483579) (hk : (k : Int) ≤ 2147483647) (w : World) :
    Calls Tryd.prog 55 #[.int .i64 (x : Int), .int .i64 (k : Int)] w fun e w' => e = .returned (.int .i64 (pwN x k : Int)) ∧ w = w' := by
  go_enter Tryd.func55, Tryd.ntmps55
  go_wp2_with (fail)
  go_loop [0, 1, 5] (fun y m o => ∃ Y M O : Nat, y = .int .i64 Y ∧ m = .int .i64 M ∧ o = .int .i64 O ∧ (Y : Int) < 2147483579 ∧ (O : Int) < 2147483579 ∧ M ≤ k ∧ O * Y ^ M % GP = x ^ k % GP) (fun _ m _ => (intOf m).toNat)
  case atStart => exact ⟨x, k, 1, rfl, rfl, rfl, hx, by omega, Nat.le_refl _, by rw [Nat.one_mul]⟩
  case round =>
    obtain ⟨Y, M, O, rfl, rfl, rfl, hY, hO, hM, hinv⟩ := hrel
    have HI := Lib.hid hinv
    clear hinv
    have h3 := prod_bd (Int.natCast_nonneg Y) hY (Int.natCast_nonneg Y) hY
    have h4 := prod_bd (Int.natCast_nonneg O) hO (Int.natCast_nonneg Y) hY
    have e1 : Hid ((Y : Int) * Y % 2147483579 = ((Y * Y % GP : Nat) : Int)) := by show _ = _; rw [← GP_int]; simp
    have e2 : Hid ((O : Int) * Y % 2147483579 = ((O * Y % GP : Nat) : Int)) := by show _ = _; rw [← GP_int]; simp
    have l1 : ((Y * Y % GP : Nat) : Int) < 2147483579 := by have := Nat.mod_lt (Y * Y) P_pos; rw [← GP_int]; omega
    have l2 : ((O * Y % GP : Nat) : Int) < 2147483579 := by have := Nat.mod_lt (O * Y) P_pos; rw [← GP_int]; omega
    have L1 := Lib.hid l1
    have L2 := Lib.hid l2
    clear l1 l2
    have e3 : Hid ((M : Int) / 2 = ((M / 2 : Nat) : Int)) := by show _ = _; omega
    by_cases hm0 : 0 < M
    · by_cases hb : M % 2 = 1
      · have hb2 : ((M : Int) % 2 == 1) = true := by rw [beq_iff_eq]; omega
        have HB := Lib.hid hb
        clear hb
        go_wp2_with (fail)
        go_round
        case rel =>
          refine ⟨Y * Y % GP, M / 2, O * Y % GP, by rw [e1.out], by rw [e3.out], by rw [e2.out], L1.out, L2.out, by omega, ?_⟩
          rw [← HI.out]
          have hMM : M = 1 + 2 * (M / 2) := by have := HB.out; omega
          conv => rhs; rw [hMM, Nat.pow_add, Nat.pow_one, Nat.pow_mul, Nat.pow_two, ← Nat.mul_assoc, Nat.mul_mod, Nat.pow_mod]
          conv => lhs; rw [Nat.mul_mod, Nat.mod_mod]
        case measure => simp [intOf]; omega
      · have hb2 : ((M : Int) % 2 == 1) = false := by rw [beq_eq_false_iff_ne]; omega
        have HB := Lib.hid hb
        clear hb
        go_wp2_with (fail)
        go_round
        case rel =>
          refine ⟨Y * Y % GP, M / 2, O, by rw [e1.out], by rw [e3.out], rfl, L1.out, hO, by omega, ?_⟩
          rw [← HI.out]
          have hMM : M = 2 * (M / 2) := by have := HB.out; omega
          conv => rhs; rw [hMM, Nat.pow_mul, Nat.pow_two, Nat.mul_mod, Nat.pow_mod]
          conv => lhs; rw [Nat.mul_mod]
        case measure => simp [intOf]; omega
    · obtain rfl : M = 0 := by omega
      go_wp2_with (fail)
      go_ret
      refine ⟨?_, rfl⟩
      have h := HI.out
      rw [Nat.pow_zero, Nat.mul_one, Nat.mod_eq_of_lt (by rw [← GP_int] at hO; omega)] at h
      rw [h]
      rfl
end Go.Proofs.YtgmmdijmlnehlaaDoor
