import Derived.Test.YteodlgmcniikpaaRows
import Derived.Test.YteodlgmcniikpaaBase
import Derived.Test.YteodlgmcniikpaaOct
namespace Go.Proofs.Yteodlgmcniikpaa
open Go.RowKit Go.TravelBase
set_option linter.unusedVariables false
set_option linter.unusedSimpArgs false

/-- A command. -/
structure Cmd where
  cl : Int
  ins : Int
  p1 : Int
  p2 : Int
  data : List UInt8
  ex : Int
/-- The value of a command whose data lie at A. -/
def cmdV (k : Cmd) (A : Option Addr) (n c : Nat) : Value := .agg #[.int .i64 k.cl, .int .i64 k.ins, .int .i64 k.p1, .int .i64 k.p2, .slice A n c, .int .i64 k.ex]
/-- The numbers of a command fit int. -/
def CmdOk (k : Cmd) : Prop := (-9223372036854775808 ≤ k.cl ∧ k.cl ≤ 9223372036854775807) ∧ (-9223372036854775808 ≤ k.ins ∧ k.ins ≤ 9223372036854775807) ∧ (-9223372036854775808 ≤ k.p1 ∧ k.p1 ≤ 9223372036854775807) ∧
  (-9223372036854775808 ≤ k.p2 ∧ k.p2 ≤ 9223372036854775807) ∧ (-9223372036854775808 ≤ k.ex ∧ k.ex ≤ 9223372036854775807)
def octB (x : Int) : Bool := decide (0 ≤ x ∧ x ≤ 255)
def expOk (x : Int) : Bool := decide (x = -1 ∨ 1 ≤ x ∧ x ≤ 65536)
def validB (k : Cmd) : Bool := octB k.ins && octB k.p1 && octB k.p2 && decide (0 ≤ k.cl ∧ k.cl ≤ 254) && decide (k.data.length ≤ 4096) && expOk k.ex

set_option maxHeartbeats 1600000 in
theorem valid_any (k : Cmd) (A : Option Addr) (n c : Nat) (w : World) (hn : k.data.length = n) (hm : n ≤ 9223372036854775807) :
    Calls Try.prog 14 #[cmdV k A n c] w fun e w' => e = .returned (.bool (validB k)) ∧ Below w.heap.size w w' := by
  obtain ⟨cl, ins, p1, p2, data, ex⟩ := k
  simp only at hn
  have HV : Hid (validB ⟨cl, ins, p1, p2, data, ex⟩ = (octB ins && octB p1 && octB p2 && decide (0 ≤ cl ∧ cl ≤ 254) && decide (n ≤ 4096) && expOk ex)) := by subst hn; rfl
  clear hn
  unfold cmdV
  go_enter Try.func14, Try.ntmps14
  go_wp2_with (fail)
  go_loop [14] (fun i => ∃ j : Nat, j ≤ 3 ∧ i = .int .i64 j ∧ (1 ≤ j → octB ins = true) ∧ (2 ≤ j → octB p1 = true) ∧ (3 ≤ j → octB p2 = true)) (fun i => 3 - (intOf i).toNat)
  case atStart => exact ⟨0, by omega, rfl, by omega, by omega, by omega⟩
  case round =>
    obtain ⟨j, hj, rfl, hk⟩ := hrel
    have HK := Lib.hid hk
    clear hk
    rcases (show j = 0 ∨ j = 1 ∨ j = 2 ∨ j = 3 by omega) with rfl | rfl | rfl | rfl
    · by_cases hx1 : ins < 0
      · have hB : octB ins = false := decide_eq_false (by omega)
        have HB := Lib.hid hB
        clear hB
        go_wp2_with (fail)
        go_ret
        exact ⟨by rw [HV.out, HB.out]; simp, ((Below.refl _ _).alloc (Nat.le_refl _) _).alloc (by simp) _⟩
      · by_cases hx2 : 255 < ins
        · have hB : octB ins = false := decide_eq_false (by omega)
          have HB := Lib.hid hB
          clear hB
          go_wp2_with (fail)
          go_ret
          exact ⟨by rw [HV.out, HB.out]; simp, ((Below.refl _ _).alloc (Nat.le_refl _) _).alloc (by simp) _⟩
        · have hB : octB ins = true := decide_eq_true (by omega)
          have HB := Lib.hid hB
          clear hB
          go_wp2_with (fail)
          go_round
          case rel => exact ⟨1, by omega, rfl, by intro _; exact HB.out, by intro _; omega, by intro _; omega⟩
          case measure => simp [intOf]
    · by_cases hx1 : p1 < 0
      · have hB : octB p1 = false := decide_eq_false (by omega)
        have HB := Lib.hid hB
        clear hB
        go_wp2_with (fail)
        go_ret
        exact ⟨by rw [HV.out, HB.out]; simp, ((Below.refl _ _).alloc (Nat.le_refl _) _).alloc (by simp) _⟩
      · by_cases hx2 : 255 < p1
        · have hB : octB p1 = false := decide_eq_false (by omega)
          have HB := Lib.hid hB
          clear hB
          go_wp2_with (fail)
          go_ret
          exact ⟨by rw [HV.out, HB.out]; simp, ((Below.refl _ _).alloc (Nat.le_refl _) _).alloc (by simp) _⟩
        · have hB : octB p1 = true := decide_eq_true (by omega)
          have HB := Lib.hid hB
          clear hB
          go_wp2_with (fail)
          go_round
          case rel => exact ⟨2, by omega, rfl, by intro _; exact HK.out.1 (by omega), by intro _; exact HB.out, by intro _; omega⟩
          case measure => simp [intOf]
    · by_cases hx1 : p2 < 0
      · have hB : octB p2 = false := decide_eq_false (by omega)
        have HB := Lib.hid hB
        clear hB
        go_wp2_with (fail)
        go_ret
        exact ⟨by rw [HV.out, HB.out]; simp, ((Below.refl _ _).alloc (Nat.le_refl _) _).alloc (by simp) _⟩
      · by_cases hx2 : 255 < p2
        · have hB : octB p2 = false := decide_eq_false (by omega)
          have HB := Lib.hid hB
          clear hB
          go_wp2_with (fail)
          go_ret
          exact ⟨by rw [HV.out, HB.out]; simp, ((Below.refl _ _).alloc (Nat.le_refl _) _).alloc (by simp) _⟩
        · have hB : octB p2 = true := decide_eq_true (by omega)
          have HB := Lib.hid hB
          clear hB
          go_wp2_with (fail)
          go_round
          case rel => exact ⟨3, by omega, rfl, by intro _; exact HK.out.1 (by omega), by intro _; exact HK.out.2.1 (by omega), by intro _; exact HB.out⟩
          case measure => simp [intOf]
    · obtain ⟨o1, o2, o3⟩ := HK.out
      have HV2 : Hid (validB ⟨cl, ins, p1, p2, data, ex⟩ = (decide (0 ≤ cl ∧ cl ≤ 254) && decide (n ≤ 4096) && expOk ex)) := by
        show validB _ = _
        rw [HV.out, o1 (by omega), o2 (by omega), o3 (by omega)]
        simp
      clear o1 o2 o3 HK HV
      have hE : ((ex == -1) = true ∧ ex = -1) ∨ ((ex == -1) = false ∧ ex ≠ -1 ∧ ex < 1) ∨ ((ex == -1) = false ∧ 1 ≤ ex ∧ ex ≤ 65536) ∨ ((ex == -1) = false ∧ 1 ≤ ex ∧ 65536 < ex ∧ decide (ex ≤ 65536) = false) := by
        simp only [beq_iff_eq, beq_eq_false_iff_ne, decide_eq_false_iff_not]
        omega
      have hC : cl < 0 ∨ (0 ≤ cl ∧ cl ≤ 254) ∨ (0 ≤ cl ∧ 254 < cl) := by omega
      rcases hE with ⟨b1, q1⟩ | ⟨b1, q1, e2⟩ | ⟨b1, e1, e2⟩ | ⟨b1, e1, e2, d2⟩
      all_goals rcases hC with c1 | ⟨c1, c2⟩ | ⟨c1, c2⟩
      all_goals by_cases c3 : n ≤ 4096
      all_goals
        try (have E1 := Lib.hid q1; clear q1)
        go_wp2_with (fail)
        go_ret
        try (have q1 := E1.out)
        exact ⟨by rw [HV2.out]; simp [expOk]; omega, ((Below.refl _ _).alloc (Nat.le_refl _) _).alloc (by simp) _⟩
end Go.Proofs.Yteodlgmcniikpaa
