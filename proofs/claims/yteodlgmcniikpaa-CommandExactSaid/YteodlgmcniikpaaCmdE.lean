import Derived.Test.YteodlgmcniikpaaCmdD
namespace Go.Proofs.Yteodlgmcniikpaa
open Go.RowKit Go.TravelBase
set_option linter.unusedVariables false
set_option linter.unusedSimpArgs false

theorem be1_one {x : Nat} : beS x 1 = [UInt8.ofNat x] := by
  have p0 : p256 0 = 1 := by decide +kernel
  simp [beS, p0]
theorem be2_two {x : Nat} : beS x 2 = [UInt8.ofNat (x / 256), UInt8.ofNat x] := by
  have p0 : p256 0 = 1 := by decide +kernel
  have p1 : p256 1 = 256 := by decide +kernel
  simp [beS, p0, p1]
theorem wrap8 (x : Int) : IntKind.u8.wrap x = x % 256 := by rfl
theorem two_cells (n : Nat) : bvs (beS n 2) = [Value.int .u8 (IntKind.u8.wrap ((n : Int) / 256)), Value.int .u8 (IntKind.u8.wrap (n : Int))] := by
  rw [be2_two, wrap8, wrap8]
  show [bv _, bv _] = _
  rw [bv_ofNat, bv_ofNat]
  simp
theorem one_cells (n : Nat) : bvs (beS n 1) = [Value.int .u8 (IntKind.u8.wrap (n : Int))] := by
  rw [be1_one, wrap8]
  show [bv _] = _
  rw [bv_ofNat]
  simp
theorem one_small {n : Nat} (h : n ≤ 255) : bvs (beS n 1) = [Value.int .u8 (n : Int)] := by
  rw [one_cells, wrap8]
  congr 2
  omega
theorem one_l1 (a : Int) : ∀ u ∈ [Value.int .u8 a], u.oneCell' = true := by intro u hu; simp at hu; subst hu; rfl
theorem one_l2 (a b : Int) : ∀ u ∈ [Value.int .u8 a, Value.int .u8 b], u.oneCell' = true := by
  intro u hu; simp at hu; rcases hu with rfl | rfl <;> rfl

set_option maxHeartbeats 4000000 in
set_option maxRecDepth 100000 in
theorem rencode_any (k : Cmd) (A : Option Addr) (n c : Nat) (w : World) (h : Rd w A n c (bvs k.data)) (hm : n ≤ 9223372036854775807) :
    Calls Try.prog 10 #[cmdV k A n c] w (RetSE 5 (encL k).length (bvs (encL k)) (encE k) w) := by
  have hn := h.len
  rw [length_bvs] at hn
  have hc := h.cap
  have hcm := h.max
  obtain ⟨i0, hi, hz0, hz1, hz2⟩ := info_parts info_u8
  have V := Lib.hid (fun w => rvalid_any k A n c w hn hm)
  obtain ⟨cl, ins, p1, p2, data, ex⟩ := k
  simp only at hn h
  unfold cmdV at V ⊢
  cases hv : validB ⟨cl, ins, p1, p2, data, ex⟩ with
  | false =>
    rw [hv] at V
    have e1 : encL ⟨cl, ins, p1, p2, data, ex⟩ = [] := by unfold encL; rw [hv]; rfl
    have e2 : encE ⟨cl, ins, p1, p2, data, ex⟩ = 14 := by unfold encE; rw [hv]; rfl
    rw [e1, e2]
    clear e1 e2 hv
    go_enter Try.func10, Try.ntmps10
    go_wp2_with (go_at_call 15; go_must (refine (V.out _).mono ?_); rintro e w1 ⟨rfl, hW⟩)
    go_ret2
    exact RetSE.nil' (Below.of_base ((Below.refl _ _).alloc (Nat.le_refl _) _) hW (by simp))
  | true =>
    rw [hv] at V
    have e1 : encL ⟨cl, ins, p1, p2, data, ex⟩ = encX ⟨cl, ins, p1, p2, data, ex⟩ := by unfold encL; rw [hv]; rfl
    have e2 : encE ⟨cl, ins, p1, p2, data, ex⟩ = 0 := by unfold encE; rw [hv]; rfl
    rw [e1, e2]
    clear e1 e2
    simp only [validB, octB, expOk, Bool.and_eq_true, decide_eq_true_eq] at hv
    obtain ⟨⟨⟨⟨⟨⟨q1, q2⟩, q3, q4⟩, q5, q6⟩, q7, q8⟩, q9⟩, q10⟩ := hv
    rw [hn] at q9
    have hE : ex = -1 ∨ ∃ x : Nat, ex = (x : Int) ∧ 1 ≤ x ∧ (x : Int) ≤ 65536 := by
      rcases q10 with E | ⟨E1, E2⟩
      · exact .inl E
      · exact .inr ⟨ex.toNat, by omega, by omega, by omega⟩
    clear q10
    by_cases S1 : 255 < n
    · rcases hE with rfl | ⟨x, rfl, E1, E2⟩
      · skip
        generalize hX : encX ⟨cl, ins, p1, p2, data, (-1)⟩ = X
        have HX := Lib.hid hX
        clear hX
        go_enter Try.func10, Try.ntmps10
        go_wp2_with (first
          | (go_at_call 15; go_must (refine (V.out _).mono ?_); rintro e w1 ⟨rfl, hW⟩; have ⟨c0, c1, c2, c3, c4, c5, hlt⟩ := boxW_cells hW; have hap := headAp hW.size q1 q2 q3 q4 q5 q6 q7 q8; replace hW := below_allocS hW (Nat.le_refl _) (.cells #[.int .u8 cl, .int .u8 ins, .int .u8 p1, .int .u8 p2] 5))
          | (at_builtin; refine wpList_append_apN _ rfl (.tmp 52) (.tmp 53) 22 rfl (boxW cl ins p1 p2 (-1) A n c w).heap.size 5 i0 _ 1 Try.underlying22 hi hz0 hz1 hz2 rfl _ _ _ _ rfl (hap.alloc _) _ _ _ _ rfl (Rd.litS (by simp) (by simp [maxLen])) (one_l1 _) (by omega) (by unfold maxLen; omega) ((below_allocS hW (Nat.le_refl _) _).size) ?_; intro Na A3 d3 w3 ha hal hap3 hk hb3; clear hk; replace hW := (below_allocS hW (Nat.le_refl _) _).trans hb3; clear hap; have hap := hap3; clear hap3; clear c0 c1 c2 c3 c4 c5 hlt; have ⟨c0, c1, c2, c3, c4, c5, hlt⟩ := boxW_cells hW))
        go_region_law (first
          | (refine step_append_apN rfl (.tmp 57) (.tmp 63) 22 rfl (boxW cl ins p1 p2 (-1) A n c w).heap.size 5 i0 _ 1 Try.underlying22 hi hz0 hz1 hz2 rfl _ _ _ _ rfl ((hap.alloc _).drew) _ _ _ _ rfl (Rd.litS (by simp) (by simp [maxLen])).drew (one_l2 _ _) (by omega) (by unfold maxLen; omega) ((below_allocS hW (Nat.le_refl _) _).drew.size) ?_; intro Nb A3 d3 w3 hb hbl hap3 hk hb3; clear hk; replace hW := (below_allocS hW (Nat.le_refl _) _).drew.trans hb3; clear hap; have hap := hap3; clear hap3; clear c0 c1 c2 c3 c4 c5 hlt; have ⟨c0, c1, c2, c3, c4, c5, hlt⟩ := boxW_cells hW)
          | (refine step_append_apN rfl (.tmp 64) (.tmp 66) 22 rfl (boxW cl ins p1 p2 (-1) A n c w).heap.size 5 i0 _ 1 Try.underlying22 hi hz0 hz1 hz2 rfl _ _ _ _ rfl (hap) _ _ _ _ rfl ((h.alloc _).below hW) (one_bvs _) (by omega) (by unfold maxLen; omega) (hW.size) ?_; intro Nc A3 d3 w3 hc hcl hap3 hk hb3; clear hk; replace hW := hW.trans hb3; clear hap; have hap := hap3; clear hap3; clear c0 c1 c2 c3 c4 c5 hlt; have ⟨c0, c1, c2, c3, c4, c5, hlt⟩ := boxW_cells hW))
        all_goals
          go_wp2_with (first
            | (go_at_call 15; go_must (refine (V.out _).mono ?_); rintro e w1 ⟨rfl, hW⟩; have ⟨c0, c1, c2, c3, c4, c5, hlt⟩ := boxW_cells hW; have hap := headAp hW.size q1 q2 q3 q4 q5 q6 q7 q8; replace hW := below_allocS hW (Nat.le_refl _) (.cells #[.int .u8 cl, .int .u8 ins, .int .u8 p1, .int .u8 p2] 5))
            | (at_builtin; refine wpList_append_apN _ rfl (.tmp 52) (.tmp 53) 22 rfl (boxW cl ins p1 p2 (-1) A n c w).heap.size 5 i0 _ 1 Try.underlying22 hi hz0 hz1 hz2 rfl _ _ _ _ rfl (hap.alloc _) _ _ _ _ rfl (Rd.litS (by simp) (by simp [maxLen])) (one_l1 _) (by omega) (by unfold maxLen; omega) ((below_allocS hW (Nat.le_refl _) _).size) ?_; intro Na A3 d3 w3 ha hal hap3 hk hb3; clear hk; replace hW := (below_allocS hW (Nat.le_refl _) _).trans hb3; clear hap; have hap := hap3; clear hap3; clear c0 c1 c2 c3 c4 c5 hlt; have ⟨c0, c1, c2, c3, c4, c5, hlt⟩ := boxW_cells hW))
          go_ret2
          refine RetSE.apL (by simp) ?_ hap (Below.of_base ((Below.refl _ _).alloc (Nat.le_refl _) _) hW (by simp))
          rw [← HX.out]
          unfold encX wideB
          simp only [hn]
          simp [bvs_append, bvs_zero, show bvs [] = [] from rfl, (show 255 < n from S1), (show 0 < n by omega), two_cells, one_cells, wrap8]
      · skip
        generalize hX : encX ⟨cl, ins, p1, p2, data, x⟩ = X
        have HX := Lib.hid hX
        clear hX
        go_enter Try.func10, Try.ntmps10
        go_wp2_with (first
          | (go_at_call 15; go_must (refine (V.out _).mono ?_); rintro e w1 ⟨rfl, hW⟩; have ⟨c0, c1, c2, c3, c4, c5, hlt⟩ := boxW_cells hW; have hap := headAp hW.size q1 q2 q3 q4 q5 q6 q7 q8; replace hW := below_allocS hW (Nat.le_refl _) (.cells #[.int .u8 cl, .int .u8 ins, .int .u8 p1, .int .u8 p2] 5))
          | (at_builtin; refine wpList_append_apN _ rfl (.tmp 52) (.tmp 53) 22 rfl (boxW cl ins p1 p2 x A n c w).heap.size 5 i0 _ 1 Try.underlying22 hi hz0 hz1 hz2 rfl _ _ _ _ rfl (hap.alloc _) _ _ _ _ rfl (Rd.litS (by simp) (by simp [maxLen])) (one_l1 _) (by omega) (by unfold maxLen; omega) ((below_allocS hW (Nat.le_refl _) _).size) ?_; intro Na A3 d3 w3 ha hal hap3 hk hb3; clear hk; replace hW := (below_allocS hW (Nat.le_refl _) _).trans hb3; clear hap; have hap := hap3; clear hap3; clear c0 c1 c2 c3 c4 c5 hlt; have ⟨c0, c1, c2, c3, c4, c5, hlt⟩ := boxW_cells hW)
          | (at_builtin; refine wpList_append_apN _ rfl (.tmp 71) (.tmp 79) 22 rfl (boxW cl ins p1 p2 x A n c w).heap.size 5 i0 _ 1 Try.underlying22 hi hz0 hz1 hz2 rfl _ _ _ _ rfl (hap.alloc _) _ _ _ _ rfl (Rd.litS (by simp) (by simp [maxLen])) (one_l2 _ _) (by omega) (by unfold maxLen; omega) ((below_allocS hW (Nat.le_refl _) _).size) ?_; intro Nd A3 d3 w3 hd hdl hap3 hk hb3; clear hk; replace hW := (below_allocS hW (Nat.le_refl _) _).trans hb3; clear hap; have hap := hap3; clear hap3; clear c0 c1 c2 c3 c4 c5 hlt; have ⟨c0, c1, c2, c3, c4, c5, hlt⟩ := boxW_cells hW))
        go_region_law (first
          | (refine step_append_apN rfl (.tmp 57) (.tmp 63) 22 rfl (boxW cl ins p1 p2 x A n c w).heap.size 5 i0 _ 1 Try.underlying22 hi hz0 hz1 hz2 rfl _ _ _ _ rfl ((hap.alloc _).drew) _ _ _ _ rfl (Rd.litS (by simp) (by simp [maxLen])).drew (one_l2 _ _) (by omega) (by unfold maxLen; omega) ((below_allocS hW (Nat.le_refl _) _).drew.size) ?_; intro Nb A3 d3 w3 hb hbl hap3 hk hb3; clear hk; replace hW := (below_allocS hW (Nat.le_refl _) _).drew.trans hb3; clear hap; have hap := hap3; clear hap3; clear c0 c1 c2 c3 c4 c5 hlt; have ⟨c0, c1, c2, c3, c4, c5, hlt⟩ := boxW_cells hW)
          | (refine step_append_apN rfl (.tmp 64) (.tmp 66) 22 rfl (boxW cl ins p1 p2 x A n c w).heap.size 5 i0 _ 1 Try.underlying22 hi hz0 hz1 hz2 rfl _ _ _ _ rfl (hap) _ _ _ _ rfl ((h.alloc _).below hW) (one_bvs _) (by omega) (by unfold maxLen; omega) (hW.size) ?_; intro Nc A3 d3 w3 hc hcl hap3 hk hb3; clear hk; replace hW := hW.trans hb3; clear hap; have hap := hap3; clear hap3; clear c0 c1 c2 c3 c4 c5 hlt; have ⟨c0, c1, c2, c3, c4, c5, hlt⟩ := boxW_cells hW))
        all_goals
          go_wp2_with (first
            | (go_at_call 15; go_must (refine (V.out _).mono ?_); rintro e w1 ⟨rfl, hW⟩; have ⟨c0, c1, c2, c3, c4, c5, hlt⟩ := boxW_cells hW; have hap := headAp hW.size q1 q2 q3 q4 q5 q6 q7 q8; replace hW := below_allocS hW (Nat.le_refl _) (.cells #[.int .u8 cl, .int .u8 ins, .int .u8 p1, .int .u8 p2] 5))
            | (at_builtin; refine wpList_append_apN _ rfl (.tmp 52) (.tmp 53) 22 rfl (boxW cl ins p1 p2 x A n c w).heap.size 5 i0 _ 1 Try.underlying22 hi hz0 hz1 hz2 rfl _ _ _ _ rfl (hap.alloc _) _ _ _ _ rfl (Rd.litS (by simp) (by simp [maxLen])) (one_l1 _) (by omega) (by unfold maxLen; omega) ((below_allocS hW (Nat.le_refl _) _).size) ?_; intro Na A3 d3 w3 ha hal hap3 hk hb3; clear hk; replace hW := (below_allocS hW (Nat.le_refl _) _).trans hb3; clear hap; have hap := hap3; clear hap3; clear c0 c1 c2 c3 c4 c5 hlt; have ⟨c0, c1, c2, c3, c4, c5, hlt⟩ := boxW_cells hW)
            | (at_builtin; refine wpList_append_apN _ rfl (.tmp 71) (.tmp 79) 22 rfl (boxW cl ins p1 p2 x A n c w).heap.size 5 i0 _ 1 Try.underlying22 hi hz0 hz1 hz2 rfl _ _ _ _ rfl (hap.alloc _) _ _ _ _ rfl (Rd.litS (by simp) (by simp [maxLen])) (one_l2 _ _) (by omega) (by unfold maxLen; omega) ((below_allocS hW (Nat.le_refl _) _).size) ?_; intro Nd A3 d3 w3 hd hdl hap3 hk hb3; clear hk; replace hW := (below_allocS hW (Nat.le_refl _) _).trans hb3; clear hap; have hap := hap3; clear hap3; clear c0 c1 c2 c3 c4 c5 hlt; have ⟨c0, c1, c2, c3, c4, c5, hlt⟩ := boxW_cells hW))
          go_ret2
          refine RetSE.apL (by simp) ?_ hap (Below.of_base ((Below.refl _ _).alloc (Nat.le_refl _) _) hW (by simp))
          rw [← HX.out]
          unfold encX wideB
          simp only [hn]
          simp [bvs_append, bvs_zero, show bvs [] = [] from rfl, (show 255 < n from S1), (show 0 < n by omega), (show ¬ (x : Int) = -1 by omega), two_cells, one_cells, wrap8]
    · rcases hE with rfl | ⟨x, rfl, E1, E2⟩
      · by_cases D : 0 < n
        · skip
          generalize hX : encX ⟨cl, ins, p1, p2, data, (-1)⟩ = X
          have HX := Lib.hid hX
          clear hX
          go_enter Try.func10, Try.ntmps10
          go_wp2_with (first
            | (go_at_call 15; go_must (refine (V.out _).mono ?_); rintro e w1 ⟨rfl, hW⟩; have ⟨c0, c1, c2, c3, c4, c5, hlt⟩ := boxW_cells hW; have hap := headAp hW.size q1 q2 q3 q4 q5 q6 q7 q8; replace hW := below_allocS hW (Nat.le_refl _) (.cells #[.int .u8 cl, .int .u8 ins, .int .u8 p1, .int .u8 p2] 5)))
          go_region_law (first
            | (refine step_append_apN rfl (.tmp 34) (.tmp 37) 22 rfl (boxW cl ins p1 p2 (-1) A n c w).heap.size 5 i0 _ 1 Try.underlying22 hi hz0 hz1 hz2 rfl _ _ _ _ rfl ((hap.alloc _).drew) _ _ _ _ rfl (Rd.litS (by simp) (by simp [maxLen])).drew (one_l1 _) (by omega) (by unfold maxLen; omega) ((below_allocS hW (Nat.le_refl _) _).drew.size) ?_; intro Nb A3 d3 w3 hb hbl hap3 hk hb3; clear hk; replace hW := (below_allocS hW (Nat.le_refl _) _).drew.trans hb3; clear hap; have hap := hap3; clear hap3; clear c0 c1 c2 c3 c4 c5 hlt; have ⟨c0, c1, c2, c3, c4, c5, hlt⟩ := boxW_cells hW)
            | (refine step_append_apN rfl (.tmp 38) (.tmp 40) 22 rfl (boxW cl ins p1 p2 (-1) A n c w).heap.size 5 i0 _ 1 Try.underlying22 hi hz0 hz1 hz2 rfl _ _ _ _ rfl (hap) _ _ _ _ rfl ((h.alloc _).below hW) (one_bvs _) (by omega) (by unfold maxLen; omega) (hW.size) ?_; intro Nc A3 d3 w3 hc hcl hap3 hk hb3; clear hk; replace hW := hW.trans hb3; clear hap; have hap := hap3; clear hap3; clear c0 c1 c2 c3 c4 c5 hlt; have ⟨c0, c1, c2, c3, c4, c5, hlt⟩ := boxW_cells hW))
          all_goals
            go_wp2_with (first
              | (go_at_call 15; go_must (refine (V.out _).mono ?_); rintro e w1 ⟨rfl, hW⟩; have ⟨c0, c1, c2, c3, c4, c5, hlt⟩ := boxW_cells hW; have hap := headAp hW.size q1 q2 q3 q4 q5 q6 q7 q8; replace hW := below_allocS hW (Nat.le_refl _) (.cells #[.int .u8 cl, .int .u8 ins, .int .u8 p1, .int .u8 p2] 5)))
            go_ret2
            refine RetSE.apL (by simp) ?_ hap (Below.of_base ((Below.refl _ _).alloc (Nat.le_refl _) _) hW (by simp))
            rw [← HX.out]
            unfold encX wideB
            simp only [hn]
            simp [bvs_append, bvs_zero, show bvs [] = [] from rfl, (show ¬ 255 < n by omega), (show 0 < n from D), (show (n : Int) % 256 = n by omega), two_cells, one_cells, wrap8]
        · skip
          generalize hX : encX ⟨cl, ins, p1, p2, data, (-1)⟩ = X
          have HX := Lib.hid hX
          clear hX
          go_enter Try.func10, Try.ntmps10
          go_wp2_with (first
            | (go_at_call 15; go_must (refine (V.out _).mono ?_); rintro e w1 ⟨rfl, hW⟩; have ⟨c0, c1, c2, c3, c4, c5, hlt⟩ := boxW_cells hW; have hap := headAp hW.size q1 q2 q3 q4 q5 q6 q7 q8; replace hW := below_allocS hW (Nat.le_refl _) (.cells #[.int .u8 cl, .int .u8 ins, .int .u8 p1, .int .u8 p2] 5)))
          go_ret2
          refine RetSE.apL (by simp) ?_ hap (Below.of_base ((Below.refl _ _).alloc (Nat.le_refl _) _) hW (by simp))
          rw [← HX.out]
          unfold encX wideB
          simp only [hn]
          simp [bvs_append, bvs_zero, show bvs [] = [] from rfl, (show ¬ 255 < n by omega), (show ¬ 0 < n by omega), two_cells, one_cells, wrap8]
      · by_cases S2 : (256 : Int) < x
        · by_cases D : 0 < n
          · skip
            generalize hX : encX ⟨cl, ins, p1, p2, data, x⟩ = X
            have HX := Lib.hid hX
            clear hX
            go_enter Try.func10, Try.ntmps10
            go_wp2_with (first
              | (go_at_call 15; go_must (refine (V.out _).mono ?_); rintro e w1 ⟨rfl, hW⟩; have ⟨c0, c1, c2, c3, c4, c5, hlt⟩ := boxW_cells hW; have hap := headAp hW.size q1 q2 q3 q4 q5 q6 q7 q8; replace hW := below_allocS hW (Nat.le_refl _) (.cells #[.int .u8 cl, .int .u8 ins, .int .u8 p1, .int .u8 p2] 5))
              | (at_builtin; refine wpList_append_apN _ rfl (.tmp 52) (.tmp 53) 22 rfl (boxW cl ins p1 p2 x A n c w).heap.size 5 i0 _ 1 Try.underlying22 hi hz0 hz1 hz2 rfl _ _ _ _ rfl (hap.alloc _) _ _ _ _ rfl (Rd.litS (by simp) (by simp [maxLen])) (one_l1 _) (by omega) (by unfold maxLen; omega) ((below_allocS hW (Nat.le_refl _) _).size) ?_; intro Na A3 d3 w3 ha hal hap3 hk hb3; clear hk; replace hW := (below_allocS hW (Nat.le_refl _) _).trans hb3; clear hap; have hap := hap3; clear hap3; clear c0 c1 c2 c3 c4 c5 hlt; have ⟨c0, c1, c2, c3, c4, c5, hlt⟩ := boxW_cells hW)
              | (at_builtin; refine wpList_append_apN _ rfl (.tmp 71) (.tmp 79) 22 rfl (boxW cl ins p1 p2 x A n c w).heap.size 5 i0 _ 1 Try.underlying22 hi hz0 hz1 hz2 rfl _ _ _ _ rfl (hap.alloc _) _ _ _ _ rfl (Rd.litS (by simp) (by simp [maxLen])) (one_l2 _ _) (by omega) (by unfold maxLen; omega) ((below_allocS hW (Nat.le_refl _) _).size) ?_; intro Nd A3 d3 w3 hd hdl hap3 hk hb3; clear hk; replace hW := (below_allocS hW (Nat.le_refl _) _).trans hb3; clear hap; have hap := hap3; clear hap3; clear c0 c1 c2 c3 c4 c5 hlt; have ⟨c0, c1, c2, c3, c4, c5, hlt⟩ := boxW_cells hW))
            go_region_law (first
              | (refine step_append_apN rfl (.tmp 57) (.tmp 63) 22 rfl (boxW cl ins p1 p2 x A n c w).heap.size 5 i0 _ 1 Try.underlying22 hi hz0 hz1 hz2 rfl _ _ _ _ rfl ((hap.alloc _).drew) _ _ _ _ rfl (Rd.litS (by simp) (by simp [maxLen])).drew (one_l2 _ _) (by omega) (by unfold maxLen; omega) ((below_allocS hW (Nat.le_refl _) _).drew.size) ?_; intro Nb A3 d3 w3 hb hbl hap3 hk hb3; clear hk; replace hW := (below_allocS hW (Nat.le_refl _) _).drew.trans hb3; clear hap; have hap := hap3; clear hap3; clear c0 c1 c2 c3 c4 c5 hlt; have ⟨c0, c1, c2, c3, c4, c5, hlt⟩ := boxW_cells hW)
              | (refine step_append_apN rfl (.tmp 64) (.tmp 66) 22 rfl (boxW cl ins p1 p2 x A n c w).heap.size 5 i0 _ 1 Try.underlying22 hi hz0 hz1 hz2 rfl _ _ _ _ rfl (hap) _ _ _ _ rfl ((h.alloc _).below hW) (one_bvs _) (by omega) (by unfold maxLen; omega) (hW.size) ?_; intro Nc A3 d3 w3 hc hcl hap3 hk hb3; clear hk; replace hW := hW.trans hb3; clear hap; have hap := hap3; clear hap3; clear c0 c1 c2 c3 c4 c5 hlt; have ⟨c0, c1, c2, c3, c4, c5, hlt⟩ := boxW_cells hW))
            all_goals
              go_wp2_with (first
                | (go_at_call 15; go_must (refine (V.out _).mono ?_); rintro e w1 ⟨rfl, hW⟩; have ⟨c0, c1, c2, c3, c4, c5, hlt⟩ := boxW_cells hW; have hap := headAp hW.size q1 q2 q3 q4 q5 q6 q7 q8; replace hW := below_allocS hW (Nat.le_refl _) (.cells #[.int .u8 cl, .int .u8 ins, .int .u8 p1, .int .u8 p2] 5))
                | (at_builtin; refine wpList_append_apN _ rfl (.tmp 52) (.tmp 53) 22 rfl (boxW cl ins p1 p2 x A n c w).heap.size 5 i0 _ 1 Try.underlying22 hi hz0 hz1 hz2 rfl _ _ _ _ rfl (hap.alloc _) _ _ _ _ rfl (Rd.litS (by simp) (by simp [maxLen])) (one_l1 _) (by omega) (by unfold maxLen; omega) ((below_allocS hW (Nat.le_refl _) _).size) ?_; intro Na A3 d3 w3 ha hal hap3 hk hb3; clear hk; replace hW := (below_allocS hW (Nat.le_refl _) _).trans hb3; clear hap; have hap := hap3; clear hap3; clear c0 c1 c2 c3 c4 c5 hlt; have ⟨c0, c1, c2, c3, c4, c5, hlt⟩ := boxW_cells hW)
                | (at_builtin; refine wpList_append_apN _ rfl (.tmp 71) (.tmp 79) 22 rfl (boxW cl ins p1 p2 x A n c w).heap.size 5 i0 _ 1 Try.underlying22 hi hz0 hz1 hz2 rfl _ _ _ _ rfl (hap.alloc _) _ _ _ _ rfl (Rd.litS (by simp) (by simp [maxLen])) (one_l2 _ _) (by omega) (by unfold maxLen; omega) ((below_allocS hW (Nat.le_refl _) _).size) ?_; intro Nd A3 d3 w3 hd hdl hap3 hk hb3; clear hk; replace hW := (below_allocS hW (Nat.le_refl _) _).trans hb3; clear hap; have hap := hap3; clear hap3; clear c0 c1 c2 c3 c4 c5 hlt; have ⟨c0, c1, c2, c3, c4, c5, hlt⟩ := boxW_cells hW))
              go_ret2
              refine RetSE.apL (by simp) ?_ hap (Below.of_base ((Below.refl _ _).alloc (Nat.le_refl _) _) hW (by simp))
              rw [← HX.out]
              unfold encX wideB
              simp only [hn]
              simp [bvs_append, bvs_zero, show bvs [] = [] from rfl, (show ¬ 255 < n by omega), (show 0 < n from D), (show (256 : Int) < x from S2), (show ¬ (x : Int) = -1 by omega), two_cells, one_cells, wrap8]
          · skip
            generalize hX : encX ⟨cl, ins, p1, p2, data, x⟩ = X
            have HX := Lib.hid hX
            clear hX
            go_enter Try.func10, Try.ntmps10
            go_wp2_with (first
              | (go_at_call 15; go_must (refine (V.out _).mono ?_); rintro e w1 ⟨rfl, hW⟩; have ⟨c0, c1, c2, c3, c4, c5, hlt⟩ := boxW_cells hW; have hap := headAp hW.size q1 q2 q3 q4 q5 q6 q7 q8; replace hW := below_allocS hW (Nat.le_refl _) (.cells #[.int .u8 cl, .int .u8 ins, .int .u8 p1, .int .u8 p2] 5))
              | (at_builtin; refine wpList_append_apN _ rfl (.tmp 52) (.tmp 53) 22 rfl (boxW cl ins p1 p2 x A n c w).heap.size 5 i0 _ 1 Try.underlying22 hi hz0 hz1 hz2 rfl _ _ _ _ rfl (hap.alloc _) _ _ _ _ rfl (Rd.litS (by simp) (by simp [maxLen])) (one_l1 _) (by omega) (by unfold maxLen; omega) ((below_allocS hW (Nat.le_refl _) _).size) ?_; intro Na A3 d3 w3 ha hal hap3 hk hb3; clear hk; replace hW := (below_allocS hW (Nat.le_refl _) _).trans hb3; clear hap; have hap := hap3; clear hap3; clear c0 c1 c2 c3 c4 c5 hlt; have ⟨c0, c1, c2, c3, c4, c5, hlt⟩ := boxW_cells hW)
              | (at_builtin; refine wpList_append_apN _ rfl (.tmp 71) (.tmp 79) 22 rfl (boxW cl ins p1 p2 x A n c w).heap.size 5 i0 _ 1 Try.underlying22 hi hz0 hz1 hz2 rfl _ _ _ _ rfl (hap.alloc _) _ _ _ _ rfl (Rd.litS (by simp) (by simp [maxLen])) (one_l2 _ _) (by omega) (by unfold maxLen; omega) ((below_allocS hW (Nat.le_refl _) _).size) ?_; intro Nd A3 d3 w3 hd hdl hap3 hk hb3; clear hk; replace hW := (below_allocS hW (Nat.le_refl _) _).trans hb3; clear hap; have hap := hap3; clear hap3; clear c0 c1 c2 c3 c4 c5 hlt; have ⟨c0, c1, c2, c3, c4, c5, hlt⟩ := boxW_cells hW))
            go_ret2
            refine RetSE.apL (by simp) ?_ hap (Below.of_base ((Below.refl _ _).alloc (Nat.le_refl _) _) hW (by simp))
            rw [← HX.out]
            unfold encX wideB
            simp only [hn]
            simp [bvs_append, bvs_zero, show bvs [] = [] from rfl, (show ¬ 255 < n by omega), (show ¬ 0 < n by omega), (show (256 : Int) < x from S2), (show ¬ (x : Int) = -1 by omega), two_cells, one_cells, wrap8]
        · by_cases D : 0 < n
          · skip
            generalize hX : encX ⟨cl, ins, p1, p2, data, x⟩ = X
            have HX := Lib.hid hX
            clear hX
            go_enter Try.func10, Try.ntmps10
            go_wp2_with (first
              | (go_at_call 15; go_must (refine (V.out _).mono ?_); rintro e w1 ⟨rfl, hW⟩; have ⟨c0, c1, c2, c3, c4, c5, hlt⟩ := boxW_cells hW; have hap := headAp hW.size q1 q2 q3 q4 q5 q6 q7 q8; replace hW := below_allocS hW (Nat.le_refl _) (.cells #[.int .u8 cl, .int .u8 ins, .int .u8 p1, .int .u8 p2] 5))
              | (at_builtin; refine wpList_append_apN _ rfl (.tmp 45) (.tmp 49) 22 rfl (boxW cl ins p1 p2 x A n c w).heap.size 5 i0 _ 1 Try.underlying22 hi hz0 hz1 hz2 rfl _ _ _ _ rfl (hap.alloc _) _ _ _ _ rfl (Rd.litS (by simp) (by simp [maxLen])) (one_l1 _) (by omega) (by unfold maxLen; omega) ((below_allocS hW (Nat.le_refl _) _).size) ?_; intro Nd A3 d3 w3 hd hdl hap3 hk hb3; clear hk; replace hW := (below_allocS hW (Nat.le_refl _) _).trans hb3; clear hap; have hap := hap3; clear hap3; clear c0 c1 c2 c3 c4 c5 hlt; have ⟨c0, c1, c2, c3, c4, c5, hlt⟩ := boxW_cells hW))
            go_region_law (first
              | (refine step_append_apN rfl (.tmp 34) (.tmp 37) 22 rfl (boxW cl ins p1 p2 x A n c w).heap.size 5 i0 _ 1 Try.underlying22 hi hz0 hz1 hz2 rfl _ _ _ _ rfl ((hap.alloc _).drew) _ _ _ _ rfl (Rd.litS (by simp) (by simp [maxLen])).drew (one_l1 _) (by omega) (by unfold maxLen; omega) ((below_allocS hW (Nat.le_refl _) _).drew.size) ?_; intro Nb A3 d3 w3 hb hbl hap3 hk hb3; clear hk; replace hW := (below_allocS hW (Nat.le_refl _) _).drew.trans hb3; clear hap; have hap := hap3; clear hap3; clear c0 c1 c2 c3 c4 c5 hlt; have ⟨c0, c1, c2, c3, c4, c5, hlt⟩ := boxW_cells hW)
              | (refine step_append_apN rfl (.tmp 38) (.tmp 40) 22 rfl (boxW cl ins p1 p2 x A n c w).heap.size 5 i0 _ 1 Try.underlying22 hi hz0 hz1 hz2 rfl _ _ _ _ rfl (hap) _ _ _ _ rfl ((h.alloc _).below hW) (one_bvs _) (by omega) (by unfold maxLen; omega) (hW.size) ?_; intro Nc A3 d3 w3 hc hcl hap3 hk hb3; clear hk; replace hW := hW.trans hb3; clear hap; have hap := hap3; clear hap3; clear c0 c1 c2 c3 c4 c5 hlt; have ⟨c0, c1, c2, c3, c4, c5, hlt⟩ := boxW_cells hW))
            all_goals
              go_wp2_with (first
                | (go_at_call 15; go_must (refine (V.out _).mono ?_); rintro e w1 ⟨rfl, hW⟩; have ⟨c0, c1, c2, c3, c4, c5, hlt⟩ := boxW_cells hW; have hap := headAp hW.size q1 q2 q3 q4 q5 q6 q7 q8; replace hW := below_allocS hW (Nat.le_refl _) (.cells #[.int .u8 cl, .int .u8 ins, .int .u8 p1, .int .u8 p2] 5))
                | (at_builtin; refine wpList_append_apN _ rfl (.tmp 45) (.tmp 49) 22 rfl (boxW cl ins p1 p2 x A n c w).heap.size 5 i0 _ 1 Try.underlying22 hi hz0 hz1 hz2 rfl _ _ _ _ rfl (hap.alloc _) _ _ _ _ rfl (Rd.litS (by simp) (by simp [maxLen])) (one_l1 _) (by omega) (by unfold maxLen; omega) ((below_allocS hW (Nat.le_refl _) _).size) ?_; intro Nd A3 d3 w3 hd hdl hap3 hk hb3; clear hk; replace hW := (below_allocS hW (Nat.le_refl _) _).trans hb3; clear hap; have hap := hap3; clear hap3; clear c0 c1 c2 c3 c4 c5 hlt; have ⟨c0, c1, c2, c3, c4, c5, hlt⟩ := boxW_cells hW))
              go_ret2
              refine RetSE.apL (by simp) ?_ hap (Below.of_base ((Below.refl _ _).alloc (Nat.le_refl _) _) hW (by simp))
              rw [← HX.out]
              unfold encX wideB
              simp only [hn]
              simp [bvs_append, bvs_zero, show bvs [] = [] from rfl, (show ¬ 255 < n by omega), (show 0 < n from D), (show ¬ (256 : Int) < x by omega), (show ¬ (x : Int) = -1 by omega), (show (n : Int) % 256 = n by omega), two_cells, one_cells, wrap8]
          · skip
            generalize hX : encX ⟨cl, ins, p1, p2, data, x⟩ = X
            have HX := Lib.hid hX
            clear hX
            go_enter Try.func10, Try.ntmps10
            go_wp2_with (first
              | (go_at_call 15; go_must (refine (V.out _).mono ?_); rintro e w1 ⟨rfl, hW⟩; have ⟨c0, c1, c2, c3, c4, c5, hlt⟩ := boxW_cells hW; have hap := headAp hW.size q1 q2 q3 q4 q5 q6 q7 q8; replace hW := below_allocS hW (Nat.le_refl _) (.cells #[.int .u8 cl, .int .u8 ins, .int .u8 p1, .int .u8 p2] 5))
              | (at_builtin; refine wpList_append_apN _ rfl (.tmp 45) (.tmp 49) 22 rfl (boxW cl ins p1 p2 x A n c w).heap.size 5 i0 _ 1 Try.underlying22 hi hz0 hz1 hz2 rfl _ _ _ _ rfl (hap.alloc _) _ _ _ _ rfl (Rd.litS (by simp) (by simp [maxLen])) (one_l1 _) (by omega) (by unfold maxLen; omega) ((below_allocS hW (Nat.le_refl _) _).size) ?_; intro Nd A3 d3 w3 hd hdl hap3 hk hb3; clear hk; replace hW := (below_allocS hW (Nat.le_refl _) _).trans hb3; clear hap; have hap := hap3; clear hap3; clear c0 c1 c2 c3 c4 c5 hlt; have ⟨c0, c1, c2, c3, c4, c5, hlt⟩ := boxW_cells hW))
            go_ret2
            refine RetSE.apL (by simp) ?_ hap (Below.of_base ((Below.refl _ _).alloc (Nat.le_refl _) _) hW (by simp))
            rw [← HX.out]
            unfold encX wideB
            simp only [hn]
            simp [bvs_append, bvs_zero, show bvs [] = [] from rfl, (show ¬ 255 < n by omega), (show ¬ 0 < n by omega), (show ¬ (256 : Int) < x by omega), (show ¬ (x : Int) = -1 by omega), two_cells, one_cells, wrap8]
end Go.Proofs.Yteodlgmcniikpaa
