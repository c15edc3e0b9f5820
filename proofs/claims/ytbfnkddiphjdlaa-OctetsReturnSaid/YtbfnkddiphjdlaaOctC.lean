import Derived.Test.YtbfnkddiphjdlaaOctA
import Derived.Test.YtbfnkddiphjdlaaOctB
import Derived.BigQuiet
namespace Go.Proofs.Ytbfnkddiphjdlaa
open Go.RowKit Go.TravelBase
set_option linter.unusedVariables false
set_option linter.unusedSimpArgs false

set_option maxHeartbeats 400000 in
theorem rnumber_any (A : Option Addr) (n c : Nat) (bs : List UInt8) (w : World) (h : Rd w A n c (bvs bs)) :
    Calls Try.prog 9 #[.slice A n c] w fun e w' => e = .returned (.tuple #[.int .i64 (numV bs), .int .i64 (numE bs)]) ∧ w = w' := by
  have hn := h.len
  rw [length_bvs] at hn
  have hc := h.cap
  have hm := h.max
  by_cases h7 : 7 < n
  · have h7' : (7 : Int) < (n : Int) := by omega
    go_enter Try.func9, Try.ntmps9
    go_wp2
    go_ret2
    exact ⟨by simp [numV, numE, hn, h7], rfl⟩
  · have h7' : ¬ (7 : Int) < (n : Int) := by omega
    go_enter Try.func9, Try.ntmps9
    go_wp2
    go_loop [4, 5] (fun v i => ∃ k : Nat, k ≤ n ∧ i = .int .i64 k ∧ v = .int .i64 (numS (bs.take k))) (fun _ i => n - (intOf i).toNat)
    case atStart => exact ⟨0, Nat.zero_le _, rfl, rfl⟩
    case round =>
      obtain ⟨k, hk, rfl, rfl⟩ := hrel
      by_cases hlt : k < n
      · obtain ⟨b, off, rfl, hb, hcell⟩ := h.at_ (by omega)
        have hx := hcell k (bv bs[k]) (bvs_get (List.getElem?_eq_getElem (by omega)))
        unfold bv at hx
        have HS : Hid (numS (bs.take (k + 1)) = numS (bs.take k) * 256 + bs[k].toNat) := by
          rw [List.take_succ_eq_append_getElem (by omega), numS_snoc]; rfl
        have hl := numS_lt (bs.take k)
        have hl2 : numS (bs.take k) < 281474976710656 := by
          refine Nat.lt_of_lt_of_le hl ?_
          rw [List.length_take, Nat.min_eq_left (by omega)]
          exact (Nat.pow_le_pow_right (by omega) (show k ≤ 6 by omega) : 256 ^ k ≤ 256 ^ 6)
        have hb2 := (bs[k]).toNat_lt
        clear hl hcell h
        go_wp2
        go_round
        case rel => exact ⟨k + 1, by omega, by go_num, by rw [HS.out]; go_num⟩
        case measure => simp [intOf]; omega
      · go_wp2
        go_ret2
        obtain rfl : k = n := by omega
        exact ⟨by simp [numV, numE, hn, h7, List.take_of_length_le (Nat.le_of_eq hn)], rfl⟩

theorem div_p256 (n k : Nat) : n / p256 k / 256 = n / p256 (k + 1) := by rw [Nat.div_div_eq_div_mul, p256_succ]

set_option maxHeartbeats 400000 in
theorem roctets_any (n size : Int) (w : World) (hn : -9223372036854775808 ≤ n ∧ n ≤ 9223372036854775807) (hs : -9223372036854775808 ≤ size ∧ size ≤ 9223372036854775807) :
    Calls Try.prog 11 #[.int .i64 n, .int .i64 size] w (RetSE 5 (octL n size).length (bvs (octL n size)) (octE n size) w) := by
  by_cases h1 : size < 0 ∨ 7 < size
  · have e1 : octE n size = 2 := by simp [octE, h1]
    have e2 : octL n size = [] := by simp [octL, e1]
    rw [e1, e2]
    clear e1 e2
    rcases h1 with h1 | h1
    · go_enter Try.func11, Try.ntmps11
      go_wp2
      go_ret2
      exact RetSE.nil_ _ _ _
    · have h0 : ¬ size < 0 := by omega
      go_enter Try.func11, Try.ntmps11
      go_wp2
      go_ret2
      exact RetSE.nil_ _ _ _
  · have h2 : ¬ size < 0 := by omega
    have h3 : ¬ 7 < size := by omega
    obtain ⟨s, rfl⟩ := Int.eq_ofNat_of_zero_le (show 0 ≤ size by omega)
    by_cases h4 : n < 0
    · have e1 : octE n s = 3 := by simp only [octE]; rw [if_neg (by omega), if_pos (by omega)]
      have e2 : octL n s = [] := by simp [octL, e1]
      rw [e1, e2]
      clear e1 e2
      go_enter Try.func11, Try.ntmps11
      go_wp2
      go_ret2
      exact RetSE.nil_ _ _ _
    · obtain ⟨n, rfl⟩ := Int.eq_ofNat_of_zero_le (show 0 ≤ n by omega)
      have HE : Hid (octE n s = if p256 s ≤ n then 3 else 0) := by
        show octE n s = _
        simp only [octE, Int.toNat_natCast]
        rw [if_neg (by omega)]
        by_cases h : p256 s ≤ n
        · rw [if_pos h, if_pos (by omega)]
        · rw [if_neg h, if_neg (by omega)]
      obtain ⟨i0, hi, hz0, hz1, hz2⟩ := info_parts info_u8
      go_enter Try.func11, Try.ntmps11
      go_wp2_with (at_make; refine wpList_make_full _ rfl _ _ 22 rfl w.heap.size 5 i0 _ 1 Try.underlying22 hi hz0 hz1 _ _ _ _ s rfl rfl rfl rfl (by rw [hz2]; omega) (by unfold maxLen; omega) (Nat.le_refl _) ?_; intro w1 hown hgrow)
      rw [made_bytes] at hown
      have hb1 := (Below.refl w.heap.size w).grown hgrow (Nat.le_refl _) (fun k hk => by cases hk)
      clear hgrow
      go_loopw [0, 7] (fun m i wr => ∃ k : Nat, k ≤ s ∧ i = .int .i64 ((s : Int) - 1 - k) ∧ m = .int .i64 ((n / p256 k : Nat) : Int) ∧ wr.ownsRow w.heap.size 5 1 (.slice (some ⟨w.heap.size, 0, none⟩) s s) s (List.replicate (s - k) (.int .u8 0) ++ bvs (beS n k)) ∧ Below w.heap.size w wr)
        (fun _ i _ => (intOf i + 1).toNat)
      case atStart => exact ⟨0, Nat.zero_le _, by go_num, by simp [p256], by simpa [beS, bvs] using hown, hb1⟩
      case round =>
        clear hown hb1
        obtain ⟨k, hk, rfl, rfl, hown, hb⟩ := hrel
        have hdn : n / p256 k ≤ n := Nat.div_le_self _ _
        have HD := Lib.hid (div_p256 n k)
        by_cases hlt : k < s
        · obtain ⟨⟨u, hu⟩, hf, hlw⟩ := own_cell hown (j := s - 1 - k) (by omega)
          generalize hq : n / p256 k = q at *
          go_wp2
          go_roundw
          case rel => exact ⟨k + 1, by omega, by go_num, by rw [← HD.out]; go_num, be_step hlt hown (by rw [hq]; go_num), hb.setCell (Nat.le_refl _) _⟩
          case measure => simp [intOf]; omega
        · obtain rfl : k = s := by omega
          by_cases h5 : p256 k ≤ n
          · have hq1 : 1 ≤ n / p256 k := Nat.div_pos h5 (p256_pos k)
            generalize n / p256 k = q at *
            go_wp2
            go_ret2
            have e1 : octE n k = 3 := by rw [HE.out, if_pos h5]
            have e2 : octL n k = [] := by simp [octL, e1]
            rw [e1, e2]
            exact RetSE.nil' hb
          · have hq1 : n / p256 k = 0 := Nat.div_eq_of_lt (by omega)
            rw [hq1]
            clear hq1
            go_wp2
            go_ret2
            have e1 : octE n k = 0 := by rw [HE.out, if_neg h5]
            have e2 : octL n k = beS n k := by simp [octL, e1]
            rw [e1, e2, length_beS]
            exact RetSE.own (by simpa using hown) hb

set_option maxHeartbeats 400000 in
/-- Bytes are compared. -/
theorem rsame_any (A A' : Option Addr) (n c m c' : Nat) (xs ys : List UInt8) (w : World) (h : Rd w A n c (bvs xs)) (h' : Rd w A' m c' (bvs ys)) :
    Calls Try.prog 13 #[.slice A n c, .slice A' m c'] w (RetQ (.bool (decide (xs = ys))) w) := by
  have hn := h.len
  have hm := h'.len
  rw [length_bvs] at hn hm
  have hc := h.cap
  have hx := h.max
  have hc' := h'.cap
  have hx' := h'.max
  by_cases hnm : n = m
  · obtain rfl : m = n := hnm.symm
    go_enter Try.func13, Try.ntmps13
    go_wp2
    go_loopw [5] (fun i wr => ∃ k : Nat, k ≤ m ∧ i = .int .i64 k ∧ xs.take k = ys.take k ∧ ∃ q, wr = w.drewN q) (fun i _ => m - (intOf i).toNat)
    case atStart => exact ⟨0, Nat.zero_le _, rfl, rfl, 0, rfl⟩
    case round =>
      obtain ⟨k, hk, rfl, htk, q, rfl⟩ := hrel
      have HT := Lib.hid htk
      clear htk
      by_cases hlt : k < m
      · obtain ⟨b, off, rfl, hb, hcell⟩ := h.at_ (by omega)
        obtain ⟨b', off', rfl, hb', hcell'⟩ := h'.at_ (by omega)
        have hx := hcell k (bv xs[k]) (bvs_get (List.getElem?_eq_getElem (by omega)))
        have hy := hcell' k (bv ys[k]) (bvs_get (List.getElem?_eq_getElem (by omega)))
        unfold bv at hx hy
        clear hcell hcell' h h'
        have hi0 : (0 : Int) ≤ (k : Int) := by omega
        have hi1 : (k : Int) < (m : Int) := by omega
        by_cases he : xs[k] = ys[k]
        · have g := ne_false he
          have HE := Lib.hid he
          clear he
          go_wp2
          go_quiet (fail)
          go_wp2
          go_roundw
          case rel => exact ⟨k + 1, by omega, by go_num, take_eq_step HT.out (by omega) (by omega) HE.out, q + nq, rfl⟩
          case measure => simp [intOf]; omega
        · have g := ne_true he
          have HE := Lib.hid he
          clear he
          go_wp2
          go_quiet (fail)
          go_wp2
          go_ret
          have := ne_of_get _ _ HE.out
          exact ⟨by simp [this], q + nq, World.drewN_drewN _ _ _⟩
      · obtain rfl : k = m := by omega
        go_wp2
        go_ret
        have e : xs = ys := by
          have := HT.out
          rwa [List.take_of_length_le (by omega), List.take_of_length_le (by omega)] at this
        exact ⟨by simp [e], q, rfl⟩
  · have hne : xs ≠ ys := by rintro rfl; omega
    have g : ((n : Int) != (m : Int)) = true := by rw [bne_iff_ne]; omega
    go_enter Try.func13, Try.ntmps13
    go_wp2
    go_ret
    exact ⟨by simp [hne], 0, rfl⟩

set_option maxHeartbeats 400000 in
theorem bequal_any (A A' : Option Addr) (n c m c' : Nat) (xs ys : List UInt8) (w : World) (h : Rd w A n c (bvs xs)) (h' : Rd w A' m c' (bvs ys)) :
    Calls Try.prog 24 #[.slice A n c, .slice A' m c'] w fun e w' => e = .returned (.bool (decide (xs = ys))) ∧ w = w' := by
  have k1 := conv_bytes (P := Try.prog) w 22 9 5 Try.underlying22 Try.underlying5 Try.underlying9 h
  have k2 := conv_bytes (P := Try.prog) w 22 9 5 Try.underlying22 Try.underlying5 Try.underlying9 h'
  clear h h'
  go_enter Try.func24, Try.ntmps24
  go_wp2
  go_ret
  exact ⟨by rw [strB_toList, strB_toList]; by_cases he : xs = ys <;> simp [he], rfl⟩

theorem same_any (A A' : Option Addr) (n c m c' : Nat) (xs ys : List UInt8) (w : World) (h : Rd w A n c (bvs xs)) (h' : Rd w A' m c' (bvs ys)) :
    Calls Try.prog 16 #[.slice A n c, .slice A' m c'] w fun e w' => e = .returned (.bool (decide (xs = ys))) ∧ w = w' := by
  go_enter Try.func16, Try.ntmps16
  go_wp2_with (go_at_call 24; refine (bequal_any _ _ _ _ _ _ xs ys _ h h').mono ?_; rintro e w' ⟨rfl, rfl⟩)
  go_ret
  exact ⟨rfl, rfl⟩
end Go.Proofs.Ytbfnkddiphjdlaa
