import Derived.Test.YtbfnkddiphjdlaaOctE
namespace Go.Proofs.Ytbfnkddiphjdlaa
open Go.RowKit Go.TravelBase
set_option linter.unusedVariables false
set_option linter.unusedSimpArgs false

set_option maxHeartbeats 400000 in
theorem rsplit_any (A : Option Addr) (n c : Nat) (size : Int) (bs : List UInt8) (w : World) (h : Rd w A n c (bvs bs)) (hr : n ≤ 1048576) (hs : -9223372036854775808 ≤ size ∧ size ≤ 9223372036854775807) :
    Calls Try.prog 18 #[.slice A n c, .int .i64 size] w (RetSplit (splitL bs size) (splitE size) w) := by
  have hn := h.len
  rw [length_bvs] at hn
  by_cases h1 : size < 1
  · have e1 : splitE size = 3 := by simp [splitE, h1]
    have e2 : splitL bs size = [] := by simp [splitL, h1]
    rw [e1, e2]
    clear e1 e2 h
    go_enter Try.func18, Try.ntmps18
    go_wp2
    go_ret2
    exact ⟨none, 0, [], rfl, Ap.nil_ _ _ _, All2.nil_ _, Below.refl _ _⟩
  · obtain ⟨s, rfl⟩ := Int.eq_ofNat_of_zero_le (show 0 ≤ size by omega)
    have e1 : splitE s = 0 := by simp [splitE, h1]
    have HE2 : Hid (splitL bs s = piecesS bs s (countS n s)) := by
      show splitL bs s = _
      simp only [splitL, Int.toNat_natCast]
      rw [if_neg h1, hn]
    rw [e1]
    clear e1
    obtain ⟨i0, hi, hz0, hz1, hz2⟩ := info_parts info_bytes
    obtain ⟨j0, hj, hy0, hy1, hy2⟩ := info_parts info_u8
    have hc0 := h.cap
    have hcm0 := h.max
    go_enter Try.func18, Try.ntmps18
    go_wp2_with (fail)
    go_loopw [6, 7] (fun out i wr => ∃ (k p : Nat) (Ao : Option Addr) (co : Nat) (vs : List Value), i = .int .i64 p ∧ out = .slice Ao k co ∧ p ≤ n ∧ n - p = n - k * s ∧
        Ap wr w.heap.size 22 Ao k co vs ∧ All2 (Slv 5 wr w.heap.size) vs (piecesS bs s k) ∧ Below w.heap.size w wr ∧ (k = 0 ∨ (k - 1) * s < n))
      (fun _ i _ => n - (intOf i).toNat)
    case atStart => exact ⟨0, 0, none, 0, [], rfl, rfl, by omega, by simp, Ap.nil_ _ _ _, All2.nil_ _, Below.refl _ _, .inl rfl⟩
    case round =>
      obtain ⟨k, p, Ao, co, vs, rfl, rfl, hpn, hpk, hap, hvs, hb, hks⟩ := hrel
      by_cases hlt : p < n
      · generalize hm : n - k * s = m at *
        have hpm : n = p + m := by omega
        have hmk : k * s + m = n := by omega
        have hpks : p = k * s := by omega
        by_cases hms : m ≤ s
        all_goals
          have KEY := Lib.hid (piece_key (q := if m ≤ s then m else s) hn (by omega) hm (by omega) (by first | rw [if_pos hms]; exact .inl ⟨rfl, hms⟩ | rw [if_neg hms]; exact .inr ⟨rfl, by omega⟩))
          first | rw [if_pos hms] at KEY | rw [if_neg hms] at KEY
          have hkn := KEY.out.2.2.2.2.2.2
          have hqm := KEY.out.2.1
          have hsrc := h.midM (p := p) (q := if m ≤ s then m else s) (q' := if m ≤ s then p + (n - p) - p else p + s - p) (by first | rw [if_pos hms]; omega | rw [if_neg hms]; omega) hlt (by first | rw [if_pos hms, if_pos hms]; omega | rw [if_neg hms, if_neg hms]; omega)
          first | rw [if_pos hms, if_pos hms] at hsrc | rw [if_neg hms, if_neg hms] at hsrc
          rw [hpks, KEY.out.1, ← hpks] at hsrc
          replace hsrc := hsrc.below hb
          have HPK := Lib.hid hpks
          have HPM := Lib.hid hpm
          have hbs := hb.size
          have hms2 : n ≤ p + s ∨ p + s < n := by omega
          have hmn : m ≤ n := by omega
          first | replace hms2 := hms2.resolve_right (by omega) | replace hms2 := hms2.resolve_left (by omega)
          clear hpks hpm hm hpk hms hqm
          go_wp2_with (first
            | (at_builtin; refine wpList_append_ap _ rfl (.const _) (.tmp 29) 22 rfl wr.heap.size 5 j0 _ 1 Try.underlying22 hj hy0 hy1 hy2 rfl none 0 0 [] rfl (Ap.nil_ _ _ _) _ _ _ _ rfl hsrc (one_bvs _) (by omega) (by unfold maxLen; omega) (by omega) ?_; intro A1 c1 w1 hap1 hk1 hb1 hne1; simp only [Nat.zero_add, List.nil_append] at hap1; have hsz1 := hb1.size)
            | (at_builtin; refine wpList_append_ap _ rfl (.tmp 23) (.tmp 31) 32 rfl w.heap.size 22 i0 _ 24 Try.underlying32 hi hz0 hz1 hz2 rfl Ao k co vs rfl ((hap.below hb1).alloc _) (some ⟨w1.heap.size, 0, none⟩) 1 1 _ rfl (Rd.lit _ _ #[_] (by simp [maxLen])) (one_slice _ _ _) (by omega) (by unfold maxLen; omega) (by simp; omega) ?_; intro A2 c2 w2 hap2 hk2 hb2 hne2))
          go_roundw
          case rel =>
            obtain ⟨h1, h2, h3, h4, h5, h6, h7⟩ := KEY.out
            have hpk := HPK.out
            have hpm := HPM.out
            first | rw [show p + (n - p) - p = n - p from by omega] at hap1 | rw [show p + s - p = s from by omega] at hap1
            have hstep := (pieces_step hvs hb1 (Slv.mk (by omega) (hap1.base hb.size)) hk2 (by decide) : All2 _ _ (piecesS bs s k ++ [pieceS bs s k]))
            rw [← piecesS_snoc] at hstep
            have hbel := ((Below.of_base hb hb1 hb.size).alloc (by omega) (.cells #[_] _)).trans hb2
            first
              | exact ⟨k + 1, n, A2, c2, _, by go_num, rfl, by omega, by omega, hap2, hstep, hbel, .inr (by rw [Nat.add_sub_cancel]; omega)⟩
              | exact ⟨k + 1, p + s, A2, c2, _, by go_num, rfl, by omega, by omega, hap2, hstep, hbel, .inr (by rw [Nat.add_sub_cancel]; omega)⟩
          case measure => simp [intOf]; omega
      · have hk : k = countS n s := countS_of (by omega) (by omega) hks
        obtain rfl : p = n := by omega
        clear hpk
        go_wp2_with (fail)
        go_ret2
        rw [HE2.out, ← hk]
        refine ⟨Ao, co, vs, ?_, ?_, hvs, hb⟩
        · rw [length_piecesS]; rfl
        · rw [length_piecesS]; exact hap
end Go.Proofs.Ytbfnkddiphjdlaa
