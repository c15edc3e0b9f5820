import Derived.Test.YteodlgmcniikpaaCmdA
namespace Go.Proofs.Yteodlgmcniikpaa
open Go.RowKit Go.TravelBase
set_option linter.unusedVariables false
set_option linter.unusedSimpArgs false

theorem octet_any (x : Int) (w : World) : Calls Try.prog 39 #[.int .i64 x] w fun e w' => e = .returned (.bool (octB x)) ∧ w = w' := by
  by_cases h1 : 0 ≤ x
  · have e : octB x = decide (x ≤ 255) := by simp [octB, h1]
    rw [e]
    clear e
    go_enter Try.func39, Try.ntmps39
    go_wp2_with (fail)
    go_ret
    exact ⟨rfl, rfl⟩
  · have e : octB x = false := by simp [octB, h1]
    rw [e]
    clear e
    go_enter Try.func39, Try.ntmps39
    go_wp2_with (fail)
    go_ret
    exact ⟨rfl, rfl⟩

set_option maxHeartbeats 1600000 in
theorem rvalid_any (k : Cmd) (A : Option Addr) (n c : Nat) (w : World) (hn : k.data.length = n) (hm : n ≤ 9223372036854775807) :
    Calls Try.prog 15 #[cmdV k A n c] w fun e w' => e = .returned (.bool (validB k)) ∧ Below w.heap.size w w' := by
  obtain ⟨cl, ins, p1, p2, data, ex⟩ := k
  simp only at hn
  have HV : Hid (validB ⟨cl, ins, p1, p2, data, ex⟩ = (octB ins && octB p1 && octB p2 && decide (0 ≤ cl ∧ cl ≤ 254) && decide (n ≤ 4096) && expOk ex)) := by subst hn; rfl
  clear hn
  unfold cmdV
  have fin : Below w.heap.size w (w.alloc (.cells #[.int .i64 cl, .int .i64 ins, .int .i64 p1, .int .i64 p2, .slice A n c, .int .i64 ex] 24)) := (Below.refl _ _).alloc (Nat.le_refl _) _
  have O1 := Lib.hid (octet_any cl)
  have O2 := Lib.hid (octet_any ins)
  have O3 := Lib.hid (octet_any p1)
  have O4 := Lib.hid (octet_any p2)
  by_cases b1 : octB cl = false
  · rw [b1] at O1
    have hc : decide (0 ≤ cl ∧ cl ≤ 254) = false := by have := of_decide_eq_false b1; exact decide_eq_false (by omega)
    have HC := Lib.hid hc
    clear hc b1
    go_enter Try.func15, Try.ntmps15
    go_wp2_with (first | (go_at_call_of 39 cl; go_must (refine (O1.out _).mono ?_); rintro e w1 ⟨rfl, rfl⟩) | (go_at_call_of 39 ins; go_must (refine (O2.out _).mono ?_); rintro e w1 ⟨rfl, rfl⟩) | (go_at_call_of 39 p1; go_must (refine (O3.out _).mono ?_); rintro e w1 ⟨rfl, rfl⟩) | (go_at_call_of 39 p2; go_must (refine (O4.out _).mono ?_); rintro e w1 ⟨rfl, rfl⟩))
    go_ret
    exact ⟨by rw [HV.out]; rw [HC.out]; simp, fin⟩
  · replace b1 := Bool.not_eq_false _ ▸ b1
    rw [b1] at O1
    have c0 := of_decide_eq_true b1
    clear b1
    by_cases b2 : cl = 255
    · have g : (cl != 255) = false := by simp [b2]
      have hc : decide (0 ≤ cl ∧ cl ≤ 254) = false := decide_eq_false (by omega)
      have HC := Lib.hid hc
      clear hc b2
      go_enter Try.func15, Try.ntmps15
      go_wp2_with (first | (go_at_call_of 39 cl; go_must (refine (O1.out _).mono ?_); rintro e w1 ⟨rfl, rfl⟩) | (go_at_call_of 39 ins; go_must (refine (O2.out _).mono ?_); rintro e w1 ⟨rfl, rfl⟩) | (go_at_call_of 39 p1; go_must (refine (O3.out _).mono ?_); rintro e w1 ⟨rfl, rfl⟩) | (go_at_call_of 39 p2; go_must (refine (O4.out _).mono ?_); rintro e w1 ⟨rfl, rfl⟩))
      go_ret
      exact ⟨by rw [HV.out]; rw [HC.out]; simp, fin⟩
    · have g : (cl != 255) = true := by simp [b2]
      have hc : decide (0 ≤ cl ∧ cl ≤ 254) = true := decide_eq_true (by omega)
      have HC := Lib.hid hc
      clear hc b2 c0
      cases bi : octB ins with
      | false =>
        rw [bi] at O2
        have Hi := Lib.hid bi
        clear bi
        go_enter Try.func15, Try.ntmps15
        go_wp2_with (first | (go_at_call_of 39 cl; go_must (refine (O1.out _).mono ?_); rintro e w1 ⟨rfl, rfl⟩) | (go_at_call_of 39 ins; go_must (refine (O2.out _).mono ?_); rintro e w1 ⟨rfl, rfl⟩) | (go_at_call_of 39 p1; go_must (refine (O3.out _).mono ?_); rintro e w1 ⟨rfl, rfl⟩) | (go_at_call_of 39 p2; go_must (refine (O4.out _).mono ?_); rintro e w1 ⟨rfl, rfl⟩))
        go_ret
        exact ⟨by rw [HV.out]; rw [Hi.out]; simp, fin⟩
      | true =>
        rw [bi] at O2
        have Hi := Lib.hid bi
        clear bi
        cases bj : octB p1 with
        | false =>
          rw [bj] at O3
          have Hj := Lib.hid bj
          clear bj
          go_enter Try.func15, Try.ntmps15
          go_wp2_with (first | (go_at_call_of 39 cl; go_must (refine (O1.out _).mono ?_); rintro e w1 ⟨rfl, rfl⟩) | (go_at_call_of 39 ins; go_must (refine (O2.out _).mono ?_); rintro e w1 ⟨rfl, rfl⟩) | (go_at_call_of 39 p1; go_must (refine (O3.out _).mono ?_); rintro e w1 ⟨rfl, rfl⟩) | (go_at_call_of 39 p2; go_must (refine (O4.out _).mono ?_); rintro e w1 ⟨rfl, rfl⟩))
          go_ret
          exact ⟨by rw [HV.out]; rw [Hj.out]; simp, fin⟩
        | true =>
          rw [bj] at O3
          have Hj := Lib.hid bj
          clear bj
          cases bk : octB p2 with
          | false =>
            rw [bk] at O4
            have Hk := Lib.hid bk
            clear bk
            go_enter Try.func15, Try.ntmps15
            go_wp2_with (first | (go_at_call_of 39 cl; go_must (refine (O1.out _).mono ?_); rintro e w1 ⟨rfl, rfl⟩) | (go_at_call_of 39 ins; go_must (refine (O2.out _).mono ?_); rintro e w1 ⟨rfl, rfl⟩) | (go_at_call_of 39 p1; go_must (refine (O3.out _).mono ?_); rintro e w1 ⟨rfl, rfl⟩) | (go_at_call_of 39 p2; go_must (refine (O4.out _).mono ?_); rintro e w1 ⟨rfl, rfl⟩))
            go_ret
            exact ⟨by rw [HV.out]; rw [Hk.out]; simp, fin⟩
          | true =>
            rw [bk] at O4
            have Hk := Lib.hid bk
            clear bk
            by_cases c3 : n ≤ 4096
            · have hE : ((ex == -1) = true ∧ ex = -1) ∨ ((ex == -1) = false ∧ ex ≠ -1 ∧ ex < 1) ∨ ((ex == -1) = false ∧ 1 ≤ ex ∧ ex ≤ 65536) ∨ ((ex == -1) = false ∧ 1 ≤ ex ∧ 65536 < ex ∧ decide (ex ≤ 65536) = false) := by
                simp only [beq_iff_eq, beq_eq_false_iff_ne, decide_eq_false_iff_not]
                omega
              rcases hE with ⟨b1, q1⟩ | ⟨b1, q1, e2⟩ | ⟨b1, e1, e2⟩ | ⟨b1, e1, e2, d2⟩
              all_goals
                try (have E1 := Lib.hid q1; clear q1)
                go_enter Try.func15, Try.ntmps15
                go_wp2_with (first | (go_at_call_of 39 cl; go_must (refine (O1.out _).mono ?_); rintro e w1 ⟨rfl, rfl⟩) | (go_at_call_of 39 ins; go_must (refine (O2.out _).mono ?_); rintro e w1 ⟨rfl, rfl⟩) | (go_at_call_of 39 p1; go_must (refine (O3.out _).mono ?_); rintro e w1 ⟨rfl, rfl⟩) | (go_at_call_of 39 p2; go_must (refine (O4.out _).mono ?_); rintro e w1 ⟨rfl, rfl⟩))
                go_ret
                try (have q1 := E1.out)
                exact ⟨by rw [HV.out, HC.out, Hi.out, Hj.out, Hk.out]; simp [expOk, c3]; omega, fin⟩
            · have d3 : decide (n ≤ 4096) = false := decide_eq_false c3
              go_enter Try.func15, Try.ntmps15
              go_wp2_with (first | (go_at_call_of 39 cl; go_must (refine (O1.out _).mono ?_); rintro e w1 ⟨rfl, rfl⟩) | (go_at_call_of 39 ins; go_must (refine (O2.out _).mono ?_); rintro e w1 ⟨rfl, rfl⟩) | (go_at_call_of 39 p1; go_must (refine (O3.out _).mono ?_); rintro e w1 ⟨rfl, rfl⟩) | (go_at_call_of 39 p2; go_must (refine (O4.out _).mono ?_); rintro e w1 ⟨rfl, rfl⟩))
              go_ret
              exact ⟨by rw [HV.out]; simp [c3], fin⟩

end Go.Proofs.Yteodlgmcniikpaa
