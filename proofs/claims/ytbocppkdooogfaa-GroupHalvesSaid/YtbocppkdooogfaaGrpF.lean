import Derived.Test.YtbocppkdooogfaaGrpE
namespace Go.Proofs.Ytbocppkdooogfaa
open Go.RowKit Go.TravelBase
set_option linter.unusedVariables false
set_option linter.unusedSimpArgs false

theorem pwI_nat (x k : Nat) : pwI (x : Int) (k : Int) = (pwN x k : Int) := rfl
theorem elt64 : eltB 64 = true := by
  have h := elt_pw4 (m := 3) (not_dvd_lt (by omega) (by decide +kernel))
  have e : (pwN 4 3 : Int) = 64 := by decide +kernel
  rw [← e]
  exact h

set_option maxHeartbeats 400000 in
theorem awake8 (w : World) : Calls Try.prog 11 #[] w fun e w' => e = .returned (.bool true) ∧ Below w.heap.size w w' := by
  have e1 : pubV 3 = 64 := by decide +kernel
  have e2 : pubE 3 = 0 := by decide +kernel
  have PU := public_any 3
  rw [e1, e2] at PU
  have e3 : encL 64 = [0, 0, 0, 64] := by unfold encL; rw [elt64]; decide +kernel
  have e4 : encE 64 = 0 := by unfold encE; rw [elt64]; rfl
  have EN := encode_any 64
  rw [e3, e4] at EN
  have P1 := Lib.hid PU
  have E1 := Lib.hid EN
  clear PU EN e1 e2 e3 e4
  go_enter Try.func11, Try.ntmps11
  go_wp2_with (first | (go_at_call 13; go_must (refine (P1.out _).mono ?_); rintro e w1 ⟨rfl, rfl⟩) | (go_at_call 24; go_must (refine (E1.out _).mono ?_); rintro e w2 ⟨A1, c1, rfl, hap, hb⟩; obtain ⟨b, off, rfl, hbl, hcell⟩ := hap.rd.at_ (by decide); have hx := hcell 3 (.int .u8 64) rfl; clear hcell))
  go_ret
  exact ⟨by simp, hb⟩
end Go.Proofs.Ytbocppkdooogfaa
