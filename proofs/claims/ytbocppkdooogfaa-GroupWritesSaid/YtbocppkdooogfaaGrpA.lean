import Derived.Test.YtbocppkdooogfaaRows
import Derived.Test.YtbocppkdooogfaaBase
import Derived.Test.YtbocppkdooogfaaGPlain
import Derived.Lib.Tables
namespace Go.Proofs.Ytbocppkdooogfaa
open Go.RowKit Go.TravelBase
set_option linter.unusedVariables false
set_option linter.unusedSimpArgs false

theorem len8_all : ∀ j : Fin 256, 0 ≤ Lib.len8 (j.val : Int) ∧ Lib.len8 (j.val : Int) ≤ 8 ∧ j.val < 2 ^ (Lib.len8 (j.val : Int)).toNat := by decide +kernel
/-- The table at a place. -/
theorem len8_at (P : Program) (t : TypeId) (ht : P.underlying t = some .string) (j : Int) (h0 : 0 ≤ j) (h1 : j < 256) :
    ∃ L : Nat, L ≤ 8 ∧ j < 2 ^ L ∧ ∀ w, (Instr.index t (.string Lib.len8tab) (.int .u8 j)).run P w = .ok (.int .u8 (L : Int)) w := by
  obtain ⟨n, rfl⟩ := Int.eq_ofNat_of_zero_le h0
  obtain ⟨a, b, c⟩ := len8_all ⟨n, by omega⟩
  refine ⟨(Lib.len8 (n : Int)).toNat, by simp only at b; omega, by exact_mod_cast c, fun w => ?_⟩
  rw [Lib.run_index_len8tab w t .u8 n ht h0 (by omega), Int.toNat_of_nonneg a]
theorem pow_up {k j : Int} {L s : Nat} (h : j < 2 ^ L) (hk : k < (j + 1) * 2 ^ s) : k < 2 ^ (s + L) := by
  rw [Int.pow_add, Int.mul_comm]
  have : (j + 1) * 2 ^ s ≤ 2 ^ L * 2 ^ s := Int.mul_le_mul_of_nonneg_right (by omega) (Int.pow_nonneg (by omega))
  omega

set_option maxHeartbeats 800000 in
/-- The length in bits of a number below 2 to the power 31. -/
theorem len64_any (k : Int) (h0 : 0 ≤ k) (hk : k ≤ 2147483647) (w : World) :
    Calls Try.prog 41 #[.int .u64 k] w fun e w' => (∃ L : Nat, e = .returned (.int .i64 L) ∧ k < 2 ^ L ∧ L ≤ 32) ∧ w = w' := by
  by_cases h1 : 65536 ≤ k
  · by_cases h2 : 16777216 ≤ k
    · obtain ⟨L, hL, hp, hr⟩ := len8_at Try.prog 9 Try.underlying9 (k / 65536 / 256) (by omega) (by omega)
      have HP := Lib.hid hp
      clear hp
      go_enter Try.func41, Try.ntmps41
      go_wp2
      go_ret
      exact ⟨⟨24 + L, by go_num, pow_up HP.out (by omega), by omega⟩, rfl⟩
    · obtain ⟨L, hL, hp, hr⟩ := len8_at Try.prog 9 Try.underlying9 (k / 65536) (by omega) (by omega)
      have HP := Lib.hid hp
      clear hp
      go_enter Try.func41, Try.ntmps41
      go_wp2
      go_ret
      exact ⟨⟨16 + L, by go_num, pow_up HP.out (by omega), by omega⟩, rfl⟩
  · by_cases h2 : 256 ≤ k
    · obtain ⟨L, hL, hp, hr⟩ := len8_at Try.prog 9 Try.underlying9 (k / 256) (by omega) (by omega)
      have HP := Lib.hid hp
      clear hp
      go_enter Try.func41, Try.ntmps41
      go_wp2
      go_ret
      exact ⟨⟨8 + L, by go_num, pow_up HP.out (by omega), by omega⟩, rfl⟩
    · obtain ⟨L, hL, hp, hr⟩ := len8_at Try.prog 9 Try.underlying9 k (by omega) (by omega)
      have HP := Lib.hid hp
      clear hp
      go_enter Try.func41, Try.ntmps41
      go_wp2
      go_ret
      exact ⟨⟨L, by go_num, HP.out, by omega⟩, rfl⟩

theorem len_any (k : Int) (h0 : 0 ≤ k) (hk : k ≤ 2147483647) (w : World) :
    Calls Try.prog 39 #[.int .u64 k] w fun e w' => (∃ L : Nat, e = .returned (.int .i64 L) ∧ k < 2 ^ L ∧ L ≤ 32) ∧ w = w' := by
  go_enter Try.func39, Try.ntmps39
  go_wp2_with (go_at_call 41; go_must (refine (len64_any k h0 hk _).mono ?_); rintro e w1 ⟨⟨L, rfl, hp, hL⟩, rfl⟩)
  go_ret
  exact ⟨⟨L, rfl, hp, hL⟩, rfl⟩
end Go.Proofs.Ytbocppkdooogfaa
