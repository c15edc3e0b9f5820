import Derived.Test.YtgmmdijmlnehlaaDoorGrpD
import Derived.Test.YtgmmdijmlnehlaaDoorOct
namespace Go.Proofs.YtgmmdijmlnehlaaDoor
open Go.RowKit Go.TravelBase
set_option linter.unusedVariables false
set_option linter.unusedSimpArgs false

theorem eltB_iff (x : Nat) : eltB (x : Int) = true ↔ Elt x := by
  have hP := GP_int
  have hQ : ((1073741789 : Int)).toNat = GQ := by decide +kernel
  unfold eltB resB Elt pwI pwN
  rw [hQ, Int.toNat_natCast]
  simp only [Bool.and_eq_true, decide_eq_true_eq]
  generalize x ^ GQ % GP = t
  rw [← hP]
  constructor
  · rintro ⟨⟨⟨h1, h2⟩, h3⟩, h4⟩
    exact ⟨by omega, by omega, by omega, by omega⟩
  · rintro ⟨h1, h2, h3, h4⟩
    exact ⟨⟨⟨by omega, by omega⟩, by omega⟩, by omega⟩
theorem elt_pw4 {m : Nat} (hm : ¬ GQ ∣ m) : eltB (pwN 4 m : Int) = true := (eltB_iff _).2 (elt_four hm)
theorem GQ_int : (GQ : Int) = 1073741789 := by decide +kernel

/-! ### Near, Point -/
def nearI (n : Int) : Int := 1 + n % 1073741788
theorem nearI_bd (n : Int) : 1 ≤ nearI n ∧ nearI n ≤ 1073741788 := by unfold nearI; omega
theorem tmod_neg_ (n : Int) (h : n < 0) : -1073741788 < n.tmod 1073741788 ∧ n.tmod 1073741788 ≤ 0 ∧ (n.tmod 1073741788 = 0 ∧ nearI n = 1 ∨ n.tmod 1073741788 < 0 ∧ nearI n = 1 + (n.tmod 1073741788 + 1073741788)) := by
  have h1 : n.tmod 1073741788 = -((-n).tmod 1073741788) := by rw [Int.neg_tmod, Int.neg_neg]
  have h2 : (-n).tmod 1073741788 = (-n) % 1073741788 := Int.tmod_eq_emod_of_nonneg (by omega)
  rw [h1, h2]
  unfold nearI
  omega

/-! ### Encode, Decode -/
theorem info_u8_ : (Tryd.prog.info? 5).map (fun i => (i.zero, i.size, i.bytes)) = some (some (.int .u8 0), 1, 1) := by kernel_rfl
def encL (x : Int) : List UInt8 := if eltB x then beS x.toNat 4 else []
def encE (x : Int) : Int := if eltB x then 0 else 10
theorem oct4 (x : Int) (h : resB x = true) : octL x 4 = beS x.toNat 4 ∧ octE x 4 = 0 := by
  obtain ⟨h1, h2⟩ := resB_t h
  have hp : p256 4 = 4294967296 := by decide +kernel
  have e : octE x 4 = 0 := by
    unfold octE
    rw [if_neg (by omega), if_neg]
    have : (4 : Int).toNat = 4 := rfl
    rw [this, hp]
    omega
  exact ⟨by unfold octL; rw [if_pos e]; rfl, e⟩
def decV (bs : List UInt8) : Int := if bs.length = 4 then (if eltB (numV bs) then numV bs else 0) else 0
def decE (bs : List UInt8) : Int := if bs.length = 4 then (if eltB (numV bs) then 0 else 10) else 2

set_option maxHeartbeats 400000 in
theorem encode_any (x : Int) (w : World) : Calls Tryd.prog 32 #[.int .i64 x] w (RetSE 5 (encL x).length (bvs (encL x)) (encE x) w) := by
  have EL := Lib.hid (element_any x)
  cases hb : eltB x with
  | false =>
    have e1 : encL x = [] := by simp [encL, hb]
    have e2 : encE x = 10 := by simp [encE, hb]
    rw [e1, e2]
    rw [hb] at EL
    clear e1 e2 hb
    go_enter Tryd.func32, Tryd.ntmps32
    go_wp2_with (go_at_call 50; go_must (refine (EL.out _).mono ?_); rintro e w1 ⟨rfl, rfl⟩)
    go_ret2
    exact RetSE.nil_ _ _ _
  | true =>
    obtain ⟨o1, o2⟩ := oct4 x (eltB_res hb)
    obtain ⟨b1, b2⟩ := resB_t (eltB_res hb)
    have e1 : encL x = beS x.toNat 4 := by simp [encL, hb]
    have e2 : encE x = 0 := by simp [encE, hb]
    have OC : Hid (∀ w, Calls Tryd.prog 56 #[.int .i64 x, .int .i64 4] w (RetSE 5 (beS x.toNat 4).length (bvs (beS x.toNat 4)) 0 w)) := by
      intro w
      have h := octets_any x 4 w (by omega) (by omega)
      rwa [o1, o2] at h
    rw [e1, e2]
    rw [hb] at EL
    clear e1 e2 hb o1 o2
    generalize beS x.toNat 4 = l at *
    go_enter Tryd.func32, Tryd.ntmps32
    go_wp2_with (first | (go_at_call 50; go_must (refine (EL.out _).mono ?_); rintro e w1 ⟨rfl, rfl⟩) | (go_at_call 56; go_must (refine (OC.out _).mono ?_); rintro e w1 ⟨A1, c1, rfl, hap, hb⟩))
    go_ret2
    exact ⟨A1, c1, rfl, hap, hb⟩

theorem four_vals (x : Int) (h0 : 0 ≤ x) : bvs (beS x.toNat 4) = [.int .u8 (x / 16777216 % 256), .int .u8 (x / 65536 % 256), .int .u8 (x / 256 % 256), .int .u8 (x % 256)] := by
  obtain ⟨n, rfl⟩ := Int.eq_ofNat_of_zero_le h0
  have p3 : p256 3 = 16777216 := by decide +kernel
  have p2 : p256 2 = 65536 := by decide +kernel
  have p1 : p256 1 = 256 := by decide +kernel
  have p0 : p256 0 = 1 := by decide +kernel
  show [bv _, bv _, bv _, bv _] = _
  rw [bv_ofNat, bv_ofNat, bv_ofNat, bv_ofNat, p3, p2, p1, p0, Int.toNat_natCast, Nat.div_one]
  simp

set_option maxHeartbeats 400000 in
theorem four_any (x : Int) (w : World) (h0 : 0 ≤ x) (h1 : x < 2147483579) : Calls Tryd.prog 57 #[.int .i64 x] w (RetS 5 4 (bvs (beS x.toNat 4)) w) := by
  rw [four_vals x h0, show x / 16777216 % 256 = x / 16777216 from by omega]
  go_enter Tryd.func57, Tryd.ntmps57
  go_wp2_with (fail)
  go_ret
  exact RetS.ap (Ap.lit w w.heap.size 5 #[_, _, _, _] (Nat.le_refl _) (by simp [maxLen])) ((Below.refl _ _).alloc (Nat.le_refl _) _)

set_option maxHeartbeats 400000 in
theorem rencode_any (x : Int) (w : World) : Calls Tryd.prog 34 #[.int .i64 x] w (RetSE 5 (encL x).length (bvs (encL x)) (encE x) w) := by
  have EL := Lib.hid (relement_any x)
  cases hb : eltB x with
  | false =>
    have e1 : encL x = [] := by simp [encL, hb]
    have e2 : encE x = 10 := by simp [encE, hb]
    rw [e1, e2]
    rw [hb] at EL
    clear e1 e2 hb
    go_enter Tryd.func34, Tryd.ntmps34
    go_wp2_with (go_at_call 29; go_must (refine (EL.out _).mono ?_); rintro e w1 ⟨rfl, rfl⟩)
    go_ret2
    exact RetSE.nil_ _ _ _
  | true =>
    obtain ⟨b1, b2⟩ := resB_t (eltB_res hb)
    have e1 : encL x = beS x.toNat 4 := by simp [encL, hb]
    have e2 : encE x = 0 := by simp [encE, hb]
    have FO := Lib.hid (fun w => four_any x w (by omega) b2)
    rw [e1, e2, length_beS]
    rw [hb] at EL
    clear e1 e2 hb
    generalize bvs (beS x.toNat 4) = l at *
    go_enter Tryd.func34, Tryd.ntmps34
    go_wp2_with (first | (go_at_call 29; go_must (refine (EL.out _).mono ?_); rintro e w1 ⟨rfl, rfl⟩) | (go_at_call 57; go_must (refine (FO.out _).mono ?_); rintro e w1 ⟨A1, c1, rfl, hap, hb⟩))
    go_ret2
    exact ⟨A1, c1, rfl, hap, hb⟩

theorem decode_prep (bs : List UInt8) (h : bs.length = 4) : numE bs = 0 := by unfold numE; rw [if_neg (by omega)]

set_option maxHeartbeats 400000 in
theorem decode_any (A : Option Addr) (n c : Nat) (bs : List UInt8) (w : World) (h : Rd w A n c (bvs bs)) :
    Calls Tryd.prog 37 #[.slice A n c] w fun e w' => e = .returned (.tuple #[.int .i64 (decV bs), .int .i64 (decE bs)]) ∧ w = w' := by
  have hl := h.len
  rw [length_bvs] at hl
  have NU := Lib.hid (number_any A n c bs w h)
  have EL := Lib.hid (element_any (numV bs))
  by_cases h4 : n = 4
  · have g : ((n : Int) != 4) = false := by rw [bne_eq_false_iff_eq]; omega
    rw [decode_prep bs (by omega)] at NU
    cases hb : eltB (numV bs) with
    | false =>
      have e1 : decV bs = 0 := by simp [decV, hb]
      have e2 : decE bs = 10 := by simp [decE, hb, hl, h4]
      rw [e1, e2]
      rw [hb] at EL
      generalize numV bs = v at *
      clear e1 e2 hb h4 hl h
      go_enter Tryd.func37, Tryd.ntmps37
      go_wp2_with (first | (go_at_call 58; go_must (refine NU.out.mono ?_); rintro e w1 ⟨rfl, rfl⟩) | (go_at_call 50; go_must (refine (EL.out _).mono ?_); rintro e w1 ⟨rfl, rfl⟩))
      go_ret2
      exact ⟨rfl, rfl⟩
    | true =>
      have e1 : decV bs = numV bs := by simp [decV, hb, hl, h4]
      have e2 : decE bs = 0 := by simp [decE, hb, hl, h4]
      rw [e1, e2]
      rw [hb] at EL
      generalize numV bs = v at *
      clear e1 e2 hb h4 hl h
      go_enter Tryd.func37, Tryd.ntmps37
      go_wp2_with (first | (go_at_call 58; go_must (refine NU.out.mono ?_); rintro e w1 ⟨rfl, rfl⟩) | (go_at_call 50; go_must (refine (EL.out _).mono ?_); rintro e w1 ⟨rfl, rfl⟩))
      go_ret2
      exact ⟨rfl, rfl⟩
  · have g : ((n : Int) != 4) = true := by rw [bne_iff_ne]; omega
    have e1 : decV bs = 0 := by simp [decV, hl, h4]
    have e2 : decE bs = 2 := by simp [decE, hl, h4]
    rw [e1, e2]
    clear e1 e2 h4 hl h
    go_enter Tryd.func37, Tryd.ntmps37
    go_wp2_with (fail)
    go_ret2
    exact ⟨rfl, rfl⟩

end Go.Proofs.YtgmmdijmlnehlaaDoor
