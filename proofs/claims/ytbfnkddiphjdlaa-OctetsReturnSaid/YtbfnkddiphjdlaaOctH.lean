import Derived.Test.YtbfnkddiphjdlaaOctG
namespace Go.Proofs.Ytbfnkddiphjdlaa
open Go.RowKit Go.TravelBase
set_option linter.unusedVariables false
set_option linter.unusedSimpArgs false

set_option maxHeartbeats 400000 in
theorem digit_any (x : Nat) (w : World) (hx : x < 256) : Calls Try.prog 26 #[.int .u8 (x : Int)] w fun e w' => e = .returned (.int .i64 (digS x)) ∧ w = w' := by
  by_cases h1 : 48 ≤ x ∧ x ≤ 57
  · have e : digS x = (x : Int) - 48 := by simp [digS, h1]
    rw [e]
    clear e
    obtain ⟨h1, h2⟩ := h1
    go_enter Try.func26, Try.ntmps26
    go_wp2
    go_ret
    exact ⟨rfl, rfl⟩
  · by_cases h2 : 97 ≤ x ∧ x ≤ 102
    · have e : digS x = (x : Int) - 97 + 10 := by simp [digS, h1, h2]
      rw [e]
      clear e
      obtain ⟨h2, h3⟩ := h2
      have h4 : ¬ x ≤ 57 := by omega
      clear h1
      go_enter Try.func26, Try.ntmps26
      go_wp2
      go_ret
      exact ⟨rfl, rfl⟩
    · by_cases h3 : 65 ≤ x ∧ x ≤ 70
      · have e : digS x = (x : Int) - 65 + 10 := by simp [digS, h1, h2, h3]
        rw [e]
        clear e
        obtain ⟨h3, h5⟩ := h3
        have h4 : ¬ x ≤ 57 := by omega
        have h6 : ¬ 97 ≤ x := by omega
        clear h1 h2
        go_enter Try.func26, Try.ntmps26
        go_wp2
        go_ret
        exact ⟨rfl, rfl⟩
      · have e : digS x = -1 := by simp [digS, h1, h2, h3]
        rw [e]
        clear e
        go_enter Try.func26, Try.ntmps26
        go_wp2
        all_goals
          go_ret
          exact ⟨rfl, rfl⟩

set_option maxHeartbeats 400000 in
theorem rdigit_any (x : Nat) (w : World) (hx : x < 256) : Calls Try.prog 27 #[.int .u8 (x : Int)] w fun e w' => e = .returned (.int .i64 (digS x)) ∧ w = w' := by
  by_cases h1 : 48 ≤ x ∧ x ≤ 57
  · have e : digS x = (x : Int) - 48 := by simp [digS, h1]
    rw [e]
    clear e
    obtain ⟨h1, h2⟩ := h1
    go_enter Try.func27, Try.ntmps27
    go_wp2
    go_ret
    exact ⟨rfl, rfl⟩
  · by_cases h2 : 97 ≤ x ∧ x ≤ 102
    · have e : digS x = (x : Int) - 97 + 10 := by simp [digS, h1, h2]
      rw [e]
      clear e
      obtain ⟨h2, h3⟩ := h2
      have h4 : ¬ x ≤ 57 := by omega
      clear h1
      go_enter Try.func27, Try.ntmps27
      go_wp2
      go_ret
      exact ⟨rfl, rfl⟩
    · by_cases h3 : 65 ≤ x ∧ x ≤ 70
      · have e : digS x = (x : Int) - 65 + 10 := by simp [digS, h1, h2, h3]
        rw [e]
        clear e
        obtain ⟨h3, h5⟩ := h3
        have h4 : ¬ x ≤ 57 := by omega
        have h6 : ¬ 97 ≤ x := by omega
        clear h1 h2
        go_enter Try.func27, Try.ntmps27
        go_wp2
        go_ret
        exact ⟨rfl, rfl⟩
      · have e : digS x = -1 := by simp [digS, h1, h2, h3]
        rw [e]
        clear e
        go_enter Try.func27, Try.ntmps27
        go_wp2
        all_goals
          go_ret
          exact ⟨rfl, rfl⟩

end Go.Proofs.Ytbfnkddiphjdlaa
