import Derived.Test.YteodlgmcniikpaaCmdB
namespace Go.Proofs.Yteodlgmcniikpaa
open Go.RowKit Go.TravelBase
set_option linter.unusedVariables false
set_option linter.unusedSimpArgs false

/-! ### A number in one or two bytes -/
theorem be1 (n : Nat) : beS (n % 256) 1 = beS n 1 := by
  have p0 : p256 0 = 1 := by decide +kernel
  simp only [beS, p0, Nat.div_one]
  congr 1
  apply UInt8.toNat_inj.1
  rw [UInt8.toNat_ofNat', UInt8.toNat_ofNat']
  omega
theorem be2 (n : Nat) : beS (n % 65536) 2 = beS n 2 := by
  have p0 : p256 0 = 1 := by decide +kernel
  have p1 : p256 1 = 256 := by decide +kernel
  simp only [beS, p0, p1, Nat.div_one]
  congr 1
  · apply UInt8.toNat_inj.1
    rw [UInt8.toNat_ofNat', UInt8.toNat_ofNat']
    omega
  · congr 1
    apply UInt8.toNat_inj.1
    rw [UInt8.toNat_ofNat', UInt8.toNat_ofNat']
    omega
theorem octn1 (n : Nat) : octL ((n : Int) % 256) 1 = beS n 1 := by
  have p1 : p256 1 = 256 := by decide +kernel
  have e : octE ((n : Int) % 256) 1 = 0 := by
    unfold octE
    rw [if_neg (by omega), if_neg]
    have : (1 : Int).toNat = 1 := rfl
    rw [this, p1]
    omega
  unfold octL
  rw [if_pos e]
  have e1 : ((n : Int) % 256).toNat = n % 256 := by omega
  rw [e1]
  exact be1 n
theorem octn2 (n : Nat) : octL ((n : Int) % 65536) 2 = beS n 2 := by
  have p2 : p256 2 = 65536 := by decide +kernel
  have e : octE ((n : Int) % 65536) 2 = 0 := by
    unfold octE
    rw [if_neg (by omega), if_neg]
    have : (2 : Int).toNat = 2 := rfl
    rw [this, p2]
    omega
  unfold octL
  rw [if_pos e]
  have e1 : ((n : Int) % 65536).toNat = n % 65536 := by omega
  rw [e1]
  exact be2 n

set_option maxHeartbeats 400000 in
theorem number1_any (n : Nat) (hn : (n : Int) ≤ 65536) (w : World) : Calls Try.prog 35 #[.int .i64 (n : Int), .int .i64 1] w (RetS 5 1 (bvs (beS n 1)) w) := by
  have h := fun w => octets_any ((n : Int) % 256) 1 w (by omega) (by omega)
  rw [octn1, length_beS] at h
  have H := Lib.hid h
  clear h
  go_enter Try.func35, Try.ntmps35
  go_wp2_with (go_at_call 50; go_must (refine (H.out _).mono ?_); rintro e w1 ⟨A1, c1, rfl, hap, hb⟩)
  go_ret
  exact RetS.ap hap hb

set_option maxHeartbeats 400000 in
theorem number2_any (n : Nat) (hn : (n : Int) ≤ 65536) (w : World) : Calls Try.prog 35 #[.int .i64 (n : Int), .int .i64 2] w (RetS 5 2 (bvs (beS n 2)) w) := by
  have h := fun w => octets_any ((n : Int) % 65536) 2 w (by omega) (by omega)
  rw [octn2, length_beS] at h
  have H := Lib.hid h
  clear h
  go_enter Try.func35, Try.ntmps35
  go_wp2_with (go_at_call 50; go_must (refine (H.out _).mono ?_); rintro e w1 ⟨A1, c1, rfl, hap, hb⟩)
  go_ret
  exact RetS.ap hap hb

end Go.Proofs.Yteodlgmcniikpaa
