import Derived.Test.YtbocppkdooogfaaGrpG
namespace Go.Proofs.Ytbocppkdooogfaa
open Go.RowKit Go.TravelBase
set_option linter.unusedVariables false
set_option linter.unusedSimpArgs false

/-! ### Elements multiply -/
/-- A number whose power is 1: an element or 1. -/
def Unit (x : Nat) : Prop := 0 < x ∧ x < GP ∧ x ^ GQ % GP = 1
theorem Unit.mul {x y : Nat} (hx : Unit x) (hy : Unit y) : Unit (x * y % GP) := by
  have h := Elt.mul hx.2.2 hy.2.2
  exact ⟨pos_of_pow (by decide +kernel) h, Nat.mod_lt _ P_pos, h⟩
theorem Unit.pow {x : Nat} (hx : Unit x) (k : Nat) : Unit (pwN x k) := by
  have h : (pwN x k) ^ GQ % GP = 1 := by
    unfold pwN
    rw [pow_mod_pow, Nat.mul_comm, Nat.pow_mul, Nat.pow_mod, hx.2.2, Nat.one_pow, one_P]
  exact ⟨pos_of_pow (by decide +kernel) h, Nat.mod_lt _ P_pos, h⟩
theorem Unit.res {x : Nat} (hx : Unit x) : resB (x : Int) = true := by
  have hP := GP_int
  have h1 := hx.1
  have h2 := hx.2.1
  exact decide_eq_true ⟨by omega, by omega⟩
theorem Unit.elt {x : Nat} (hx : Unit x) (h1 : x ≠ 1) : eltB (x : Int) = true := (eltB_iff x).2 ⟨hx.1, hx.2.1, h1, hx.2.2⟩
theorem Unit.point (k : Nat) : Unit (pwN 4 k) := Unit.pow ⟨by omega, by decide +kernel, four_Q⟩ k
theorem mul_unit {x y : Nat} (hx : Unit x) (hy : Unit y) (w : World) : Calls Try.prog 10 #[.int .i64 (x : Int), .int .i64 (y : Int)] w fun e w' => e = .returned (.tuple #[.int .i64 ((x * y % GP : Nat) : Int), .int .i64 0]) ∧ w = w' := by
  have h := multiply_any (x : Int) (y : Int) w
  have e1 : mulV (x : Int) (y : Int) = ((x * y % GP : Nat) : Int) := by
    unfold mulV
    rw [hx.res, hy.res]
    simp only [Bool.and_self, if_true]
    rw [← GP_int]
    simp
  have e2 : mulE (x : Int) (y : Int) = 0 := by unfold mulE; rw [hx.res, hy.res]; rfl
  rwa [e1, e2] at h
theorem inv_unit {x : Nat} (hx : Unit x) (w : World) : Calls Try.prog 20 #[.int .i64 (x : Int)] w fun e w' => e = .returned (.tuple #[.int .i64 (pwN x (GP - 2) : Int), .int .i64 0]) ∧ w = w' := by
  have h := invert_any (x : Int) w
  have e0 : (2147483577 : Int).toNat = GP - 2 := by decide +kernel
  have e1 : invV (x : Int) = (pwN x (GP - 2) : Int) := by unfold invV; rw [if_pos hx.res]; unfold pwI; rw [e0, Int.toNat_natCast]
  have e2 : invE (x : Int) = 0 := by unfold invE; rw [if_pos hx.res]
  rwa [e1, e2] at h
theorem pow_unit {x : Nat} (hx : Unit x) (k : Int) (h0 : 0 ≤ k) (h1 : k ≤ 1073741788) (w : World) : Calls Try.prog 18 #[.int .i64 (x : Int), .int .i64 k] w fun e w' => e = .returned (.tuple #[.int .i64 (pwN x k.toNat : Int), .int .i64 0]) ∧ w = w' := by
  have h := Power_any (x : Int) k w
  have hk : expB k = true := decide_eq_true ⟨h0, by omega⟩
  have e1 : powV (x : Int) k = (pwN x k.toNat : Int) := by unfold powV; rw [hx.res, hk]; rfl
  have e2 : powE (x : Int) k = 0 := by unfold powE; rw [hx.res, hk]; rfl
  rwa [e1, e2] at h
theorem unit_inv {x : Nat} (hx : Unit x) : x * pwN x (GP - 2) % GP = 1 := inv_mul hx.2.2
theorem unit_cases {x : Nat} (hx : Unit x) : (((x : Int) == 1) = true) ∨ (((x : Int) == 1) = false ∧ ∀ w, Calls Try.prog 12 #[.int .i64 (x : Int)] w fun e w' => e = .returned (.bool true) ∧ w = w') := by
  by_cases h : x = 1
  · left; rw [h]; rfl
  · right
    refine ⟨by rw [beq_eq_false_iff_ne]; omega, fun w => ?_⟩
    have h1 := element_any (x : Int) w
    rwa [hx.elt h] at h1

set_option maxRecDepth 100000 in
set_option maxHeartbeats 1600000 in
theorem walk_GroupIsAGroup (a b c : Int) (w : World) (_h1 : -9223372036854775808 ≤ a ∧ a ≤ 9223372036854775807) (_h2 : -9223372036854775808 ≤ b ∧ b ≤ 9223372036854775807) (_h3 : -9223372036854775808 ≤ c ∧ c ≤ 9223372036854775807) :
    Calls Try.prog 7 #[.int .i64 a, .int .i64 b, .int .i64 c] w fun e w' => e = .returned (.bool true) ∧ Below w.heap.size w w' := by
  clear _h1 _h2 _h3
  have QA := Lib.hid (point_any a)
  have QB := Lib.hid (point_any b)
  have QC := Lib.hid (point_any c)
  have NB := Lib.hid (near_any b)
  have NC := Lib.hid (near_any c)
  have ux : Unit (pwN 4 (nearI a).toNat) := Unit.point _
  have uy : Unit (pwN 4 (nearI b).toNat) := Unit.point _
  have uz : Unit (pwN 4 (nearI c).toNat) := Unit.point _
  obtain ⟨b1, b2⟩ := nearI_bd b
  obtain ⟨c1, c2⟩ := nearI_bd c
  have ex : pwI 4 (nearI a) = (pwN 4 (nearI a).toNat : Int) := rfl
  have ey : pwI 4 (nearI b) = (pwN 4 (nearI b).toNat : Int) := rfl
  have ez : pwI 4 (nearI c) = (pwN 4 (nearI c).toNat : Int) := rfl
  rw [ex] at QA
  rw [ey] at QB
  rw [ez] at QC
  clear ex ey ez
  generalize pwN 4 (nearI a).toNat = X at *
  generalize pwN 4 (nearI b).toNat = Y at *
  generalize pwN 4 (nearI c).toNat = Z at *
  generalize nearI b = kb at *
  generalize nearI c = kc at *
  have uxy := ux.mul uy
  have uyz := uy.mul uz
  have ul := uxy.mul uz
  have ui := ux.pow (GP - 2)
  have up := ux.pow (kb / 2).toNat
  have us := ux.pow (kc / 2).toNat
  have ecomm : Y * X % GP = X * Y % GP := by rw [Nat.mul_comm]
  have eassoc : X * (Y * Z % GP) % GP = X * Y % GP * Z % GP := by rw [Nat.mul_mod_mod, Nat.mod_mul_mod, Nat.mul_assoc]
  have ei := unit_inv ux
  have esum : pwN X (kb / 2).toNat * pwN X (kc / 2).toNat % GP = pwN X (kb / 2 + kc / 2).toNat := by
    have e : (kb / 2 + kc / 2).toNat = (kb / 2).toNat + (kc / 2).toNat := by omega
    rw [e]
    unfold pwN
    exact pow_mod_mul X _ _ GP
  have M1 := Lib.hid (fun w => mul_unit ux uy w)
  have m2 := fun w => mul_unit uy ux w
  rw [ecomm] at m2
  have M2 := Lib.hid m2
  have M3 := Lib.hid (fun w => mul_unit uy uz w)
  have M4 := Lib.hid (fun w => mul_unit uxy uz w)
  have m5 := fun w => mul_unit ux uyz w
  rw [eassoc] at m5
  have M5 := Lib.hid m5
  have M6 := Lib.hid (fun w => inv_unit ux w)
  have m7 := fun w => mul_unit ux ui w
  rw [ei] at m7
  have M7 := Lib.hid m7
  have P1 := Lib.hid (fun w => pow_unit ux (kb / 2) (by omega) (by omega) w)
  have P2 := Lib.hid (fun w => pow_unit ux (kc / 2) (by omega) (by omega) w)
  have P3 := Lib.hid (fun w => pow_unit ux (kb / 2 + kc / 2) (by omega) (by omega) w)
  have m8 := fun w => mul_unit up us w
  rw [esum] at m8
  have M8 := Lib.hid m8
  have cu := unit_cases uxy
  have cl := unit_cases ul
  clear m2 m5 m7 m8 ecomm eassoc ei esum ux uy uz uyz ui up us uxy ul
  generalize X * Y % GP = U at *
  generalize U * Z % GP = LL at *
  generalize Y * Z % GP = V at *
  generalize pwN X (GP - 2) = I at *
  generalize pwN X (kb / 2).toNat = p at *
  generalize pwN X (kc / 2).toNat = s at *
  generalize pwN X (kb / 2 + kc / 2).toNat = t at *
  rcases cu with cu | ⟨cu, EU⟩
  all_goals rcases cl with cl | ⟨cl, EL⟩
  all_goals
    try (have EU' := Lib.hid EU; clear EU)
    try (have EL' := Lib.hid EL; clear EL)
    go_enter Try.func7, Try.ntmps7
    go_wp2_with (fail)
    go_must (refine (QA.out _).mono ?_)
    rintro e w1 ⟨rfl, rfl⟩
    go_wp2_with (fail)
    go_must (refine (QB.out _).mono ?_)
    rintro e w1 ⟨rfl, rfl⟩
    go_wp2_with (fail)
    go_must (refine (QC.out _).mono ?_)
    rintro e w1 ⟨rfl, rfl⟩
    go_wp2_with (fail)
    go_must (refine (M1.out _).mono ?_)
    rintro e w1 ⟨rfl, rfl⟩
    go_wp2_with (fail)
    go_must (refine (M2.out _).mono ?_)
    rintro e w1 ⟨rfl, rfl⟩
    go_wp2_with (fail)
    go_must (refine (M3.out _).mono ?_)
    rintro e w1 ⟨rfl, rfl⟩
    go_wp2_with (fail)
    go_must (refine (M4.out _).mono ?_)
    rintro e w1 ⟨rfl, rfl⟩
    go_wp2_with (fail)
    go_must (refine (M5.out _).mono ?_)
    rintro e w1 ⟨rfl, rfl⟩
    go_wp2_with (fail)
    go_must (refine (M6.out _).mono ?_)
    rintro e w1 ⟨rfl, rfl⟩
    go_wp2_with (fail)
    go_must (refine (M7.out _).mono ?_)
    rintro e w1 ⟨rfl, rfl⟩
    go_wp2_with ((go_at_call 11; go_must (refine (awake8 _).mono ?_); rintro e w2 ⟨rfl, hb⟩))
    go_must (refine (NB.out _).mono ?_)
    rintro e w1 ⟨rfl, rfl⟩
    go_wp2_with (fail)
    go_must (refine (NC.out _).mono ?_)
    rintro e w1 ⟨rfl, rfl⟩
    go_wp2_with (fail)
    go_must (refine (P1.out _).mono ?_)
    rintro e w1 ⟨rfl, rfl⟩
    go_wp2_with (fail)
    go_must (refine (P2.out _).mono ?_)
    rintro e w1 ⟨rfl, rfl⟩
    go_wp2_with (fail)
    go_must (refine (P3.out _).mono ?_)
    rintro e w1 ⟨rfl, rfl⟩
    go_wp2_with (fail)
    go_must (refine (M8.out _).mono ?_)
    rintro e w1 ⟨rfl, rfl⟩
    go_wp2_with (first | (go_at_call_of 12 (U : Int); go_must (refine (EU'.out _).mono ?_); rintro e w1 ⟨rfl, rfl⟩) | (go_at_call_of 12 (LL : Int); go_must (refine (EL'.out _).mono ?_); rintro e w1 ⟨rfl, rfl⟩))
    go_ret
    exact ⟨by simp, hb⟩

theorem write_facts (x : Int) : encL (pwI 4 (nearI x)) = beS (pwN 4 (nearI x).toNat) 4 ∧ encE (pwI 4 (nearI x)) = 0 ∧ decV (beS (pwN 4 (nearI x).toNat) 4) = pwI 4 (nearI x) ∧ decE (beS (pwN 4 (nearI x).toNat) 4) = 0 := by
  obtain ⟨_, _, _, k1, k2, _⟩ := pub_near x
  have he := elt_pw4 (not_dvd_lt k1 k2)
  have e0 : pwI 4 (nearI x) = (pwN 4 (nearI x).toNat : Int) := rfl
  rw [e0]
  have hlt := pwN_lt 4 (nearI x).toNat
  generalize pwN 4 (nearI x).toNat = y at *
  have hn : numV (beS y 4) = (y : Int) := by
    have p3 : p256 3 = 16777216 := by decide +kernel
    have p2 : p256 2 = 65536 := by decide +kernel
    have p1 : p256 1 = 256 := by decide +kernel
    have p0 : p256 0 = 1 := by decide +kernel
    unfold numV
    rw [length_beS, if_neg (by omega)]
    simp only [beS, numS, List.foldl_cons, List.foldl_nil, p3, p2, p1, p0, UInt8.toNat_ofNat']
    omega
  have hl := length_beS y 4
  refine ⟨by unfold encL; rw [if_pos he, Int.toNat_natCast], by unfold encE; rw [if_pos he], ?_, ?_⟩
  · unfold decV; rw [if_pos hl, hn, if_pos he]
  · unfold decE; rw [if_pos hl, hn, if_pos he]

set_option maxHeartbeats 800000 in
theorem walk_GroupWrites (x : Int) (A : Option Addr) (n c : Nat) (bs : List UInt8) (w : World) (_h1 : -9223372036854775808 ≤ x ∧ x ≤ 9223372036854775807) (h : Rd w A n c (bvs bs)) :
    Calls Try.prog 8 #[.int .i64 x, .slice A n c] w fun e w' => e = .returned (.bool true) ∧ Below w.heap.size w w' := by
  clear _h1
  obtain ⟨f1, f2, f3, f4⟩ := write_facts x
  have PT := Lib.hid (point_any x)
  have E1 := Lib.hid (encode_any x)
  have E2 := Lib.hid (rencode_any x)
  have e3 := encode_any (pwI 4 (nearI x))
  rw [f1, f2, length_beS] at e3
  have E3 := Lib.hid e3
  have d3 : ∀ (w : World) (A1 : Option Addr) (c1 : Nat), Rd w A1 4 c1 (bvs (beS (pwN 4 (nearI x).toNat) 4)) → Calls Try.prog 26 #[.slice A1 4 c1] w fun e w' => e = .returned (.tuple #[.int .i64 (pwI 4 (nearI x)), .int .i64 0]) ∧ w = w' := by
    intro w A1 c1 h
    have h1 := decode_any A1 4 c1 _ w h
    rwa [f3, f4] at h1
  have D3 := Lib.hid d3
  clear e3 d3 f1 f2 f3 f4
  generalize pwI 4 (nearI x) = p at *
  generalize beS (pwN 4 (nearI x).toNat) 4 = pl at *
  have hW := Below.refl w.heap.size w
  go_enter Try.func8, Try.ntmps8
  go_wp2_with (fail)
  go_must (refine (E1.out _).mono ?_)
  rintro e w1 ⟨A1, c1, rfl, hap1, hb⟩
  replace h := h.below hb
  replace hW := Below.of_base hW hb hW.size
  go_wp2_with (fail)
  go_must (refine (E2.out _).mono ?_)
  rintro e w2 ⟨A2, c2, rfl, hap2, hb2⟩
  replace h := h.below hb2
  replace hap1 := hap1.below hb2
  replace hW := Below.of_base hW hb2 hW.size
  go_wp2_with (fail)
  go_must (refine (decode_any A n c bs _ h).mono ?_)
  rintro e w1 ⟨rfl, rfl⟩
  go_wp2_with (fail)
  go_must (refine (rdecode_any A n c bs _ h).mono ?_)
  rintro e w1 ⟨rfl, rfl⟩
  go_wp2_with (fail)
  go_must (refine (PT.out _).mono ?_)
  rintro e w1 ⟨rfl, rfl⟩
  go_wp2_with (fail)
  go_must (refine (E3.out _).mono ?_)
  rintro e w3 ⟨A3, c3, rfl, hap3, hb3⟩
  replace hap1 := hap1.below hb3
  replace hap2 := hap2.below hb3
  replace hW := Below.of_base hW hb3 hW.size
  go_wp2_with (fail)
  go_must (refine (D3.out _ A3 c3 hap3.rd).mono ?_)
  rintro e w1 ⟨rfl, rfl⟩
  go_wp2_with (first | (go_at_call 11; go_must (refine (awake8 _).mono ?_); rintro e w4 ⟨rfl, hb4⟩; replace hap1 := hap1.below hb4; replace hap2 := hap2.below hb4; replace hW := Below.of_base hW hb4 hW.size) | (go_at_call 28; go_must (refine (rsame_any _ _ _ _ _ _ _ _ _ hap1.rd hap2.rd).mono ?_); rintro e w5 ⟨rfl, m, rfl⟩))
  go_ret
  exact ⟨by simp, below_drewN hW _⟩

end Go.Proofs.Ytbocppkdooogfaa
