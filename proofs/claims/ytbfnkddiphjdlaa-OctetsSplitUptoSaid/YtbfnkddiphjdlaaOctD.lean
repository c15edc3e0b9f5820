import Derived.Test.YtbfnkddiphjdlaaOctC
import Derived.WalkSpells
namespace Go.Proofs.Ytbfnkddiphjdlaa
open Go.RowKit Go.TravelBase
set_option linter.unusedVariables false
set_option linter.unusedSimpArgs false
def xorR (a b : List UInt8) : List UInt8 := if a.length = b.length then xorL a b else []

set_option maxHeartbeats 400000 in
theorem xor_any (A A' : Option Addr) (n c m c' : Nat) (xs ys : List UInt8) (w : World) (h : Rd w A n c (bvs xs)) (h' : Rd w A' m c' (bvs ys)) (hr : n ≤ 140737488355328) :
    Calls Try.prog 14 #[.slice A n c, .slice A' m c'] w (RetSE 5 (xorR xs ys).length (bvs (xorR xs ys)) (if xs.length = ys.length then 0 else 2) w) := by
  have hn := h.len
  have hm := h'.len
  rw [length_bvs] at hn hm
  have hc := h.cap
  have hx := h.max
  have hc' := h'.cap
  have hx' := h'.max
  by_cases hnm : n = m
  · obtain rfl : m = n := hnm.symm
    have e1 : xorR xs ys = xorL xs ys := by simp [xorR, hn, hm]
    rw [e1, if_pos (by omega), length_xorL _ _ (by omega), hn]
    clear e1
    obtain ⟨i0, hi, hz0, hz1, hz2⟩ := info_parts info_u8
    go_enter Try.func14, Try.ntmps14
    go_wp2_with (at_make; refine wpList_make_full _ rfl _ _ 22 rfl w.heap.size 5 i0 _ 1 Try.underlying22 hi hz0 hz1 _ _ _ _ m rfl rfl rfl rfl (by rw [hz2]; omega) (by unfold maxLen; omega) (Nat.le_refl _) ?_; intro w1 hown hgrow)
    rw [made_bytes] at hown
    have hb1 := (Below.refl w.heap.size w).grown hgrow (Nat.le_refl _) (fun k hk => by cases hk)
    clear hgrow
    go_loopw [18] (fun i wr => ∃ k : Nat, k ≤ m ∧ i = .int .i64 k ∧ wr.ownsRow w.heap.size 5 1 (.slice (some ⟨w.heap.size, 0, none⟩) m m) m (bvs ((xorL xs ys).take k) ++ List.replicate (m - k) (.int .u8 0)) ∧ Below w.heap.size w wr)
      (fun i _ => m - (intOf i).toNat)
    case atStart => exact ⟨0, Nat.zero_le _, rfl, by simpa [bvs] using hown, hb1⟩
    case round =>
      clear hown hb1
      obtain ⟨k, hk, rfl, hown, hb⟩ := hrel
      by_cases hlt : k < m
      · obtain ⟨⟨u, hu⟩, hf, hlw⟩ := own_cell hown (j := k) hlt
        have hr1 := h.below hb
        have hr2 := h'.below hb
        obtain ⟨b, off, rfl, hbl, hcell⟩ := hr1.at_ (by omega)
        obtain ⟨b', off', rfl, hbl', hcell'⟩ := hr2.at_ (by omega)
        have hx := hcell k (bv xs[k]) (bvs_get (List.getElem?_eq_getElem (by omega)))
        have hy := hcell' k (bv ys[k]) (bvs_get (List.getElem?_eq_getElem (by omega)))
        unfold bv at hx hy
        clear hcell hcell' h h' hr1 hr2
        have hi0 : (0 : Int) ≤ (k : Int) := by omega
        have hi1 : (k : Int) < (m : Int) := by omega
        go_wp2
        go_region
        go_wp2
        go_roundw
        case rel => exact ⟨k + 1, by omega, by go_num, by rw [xor_u8]; exact (xor_step hlt hn hm hown).drew, (hb.setCell (Nat.le_refl _) _).drew⟩
        case measure => simp [intOf]; omega
      · obtain rfl : k = m := by omega
        go_wp2
        go_ret2
        have e : (xorL xs ys).take k = xorL xs ys := List.take_of_length_le (by rw [length_xorL _ _ (by omega)]; omega)
        exact RetSE.own (by simpa [e] using hown) hb
  · have e1 : xorR xs ys = [] := by simp [xorR]; omega
    rw [e1, if_neg (by omega)]
    have g : ((n : Int) != (m : Int)) = true := by rw [bne_iff_ne]; omega
    go_enter Try.func14, Try.ntmps14
    go_wp2
    go_ret2
    exact RetSE.nil_ _ _ _

set_option maxHeartbeats 400000 in
theorem rxor_any (A A' : Option Addr) (n c m c' : Nat) (xs ys : List UInt8) (w : World) (h : Rd w A n c (bvs xs)) (h' : Rd w A' m c' (bvs ys)) (hr : n ≤ 140737488355328) :
    Calls Try.prog 15 #[.slice A n c, .slice A' m c'] w (RetSE 5 (xorR xs ys).length (bvs (xorR xs ys)) (if xs.length = ys.length then 0 else 2) w) := by
  have hn := h.len
  have hm := h'.len
  rw [length_bvs] at hn hm
  have hc := h.cap
  have hx := h.max
  have hc' := h'.cap
  have hx' := h'.max
  by_cases hnm : n = m
  · obtain rfl : m = n := hnm.symm
    have e1 : xorR xs ys = xorL xs ys := by simp [xorR, hn, hm]
    rw [e1, if_pos (by omega), length_xorL _ _ (by omega), hn]
    clear e1
    obtain ⟨i0, hi, hz0, hz1, hz2⟩ := info_parts info_u8
    go_enter Try.func15, Try.ntmps15
    go_wp2_with (at_make; refine wpList_make_full _ rfl _ _ 22 rfl w.heap.size 5 i0 _ 1 Try.underlying22 hi hz0 hz1 _ _ _ _ m rfl rfl rfl rfl (by rw [hz2]; omega) (by unfold maxLen; omega) (Nat.le_refl _) ?_; intro w1 hown hgrow)
    rw [made_bytes] at hown
    have hb1 := (Below.refl w.heap.size w).grown hgrow (Nat.le_refl _) (fun k hk => by cases hk)
    clear hgrow
    go_loopw [7] (fun i wr => ∃ k : Nat, k ≤ m ∧ i = .int .i64 k ∧ wr.ownsRow w.heap.size 5 1 (.slice (some ⟨w.heap.size, 0, none⟩) m m) m (bvs ((xorL xs ys).take k) ++ List.replicate (m - k) (.int .u8 0)) ∧ Below w.heap.size w wr)
      (fun i _ => m - (intOf i).toNat)
    case atStart => exact ⟨0, Nat.zero_le _, rfl, by simpa [bvs] using hown, hb1⟩
    case round =>
      clear hown hb1
      obtain ⟨k, hk, rfl, hown, hb⟩ := hrel
      by_cases hlt : k < m
      · obtain ⟨⟨u, hu⟩, hf, hlw⟩ := own_cell hown (j := k) hlt
        have hr1 := h.below hb
        have hr2 := h'.below hb
        obtain ⟨b, off, rfl, hbl, hcell⟩ := hr1.at_ (by omega)
        obtain ⟨b', off', rfl, hbl', hcell'⟩ := hr2.at_ (by omega)
        have hx := hcell k (bv xs[k]) (bvs_get (List.getElem?_eq_getElem (by omega)))
        have hy := hcell' k (bv ys[k]) (bvs_get (List.getElem?_eq_getElem (by omega)))
        unfold bv at hx hy
        clear hcell hcell' h h' hr1 hr2
        have hi0 : (0 : Int) ≤ (k : Int) := by omega
        have hi1 : (k : Int) < (m : Int) := by omega
        go_wp2
        go_region
        go_wp2
        go_roundw
        case rel => exact ⟨k + 1, by omega, by go_num, by rw [xor_u8]; exact (xor_step hlt hn hm hown).drew, (hb.setCell (Nat.le_refl _) _).drew⟩
        case measure => simp [intOf]; omega
      · obtain rfl : k = m := by omega
        go_wp2
        go_ret2
        have e : (xorL xs ys).take k = xorL xs ys := List.take_of_length_le (by rw [length_xorL _ _ (by omega)]; omega)
        exact RetSE.own (by simpa [e] using hown) hb
  · have e1 : xorR xs ys = [] := by simp [xorR]; omega
    rw [e1, if_neg (by omega)]
    have g : ((n : Int) != (m : Int)) = true := by rw [bne_iff_ne]; omega
    go_enter Try.func15, Try.ntmps15
    go_wp2
    go_ret2
    exact RetSE.nil_ _ _ _

/-! ### Copies -/
set_option maxHeartbeats 400000 in
theorem bclone_any (A : Option Addr) (n c : Nat) (xs : List UInt8) (w : World) (h : Rd w A n c (bvs xs)) (hr : n ≤ 140737488355328) :
    Calls Try.prog 25 #[.slice A n c] w (RetS 5 n (bvs xs) w) := by
  have hm := h.max
  obtain ⟨i0, hi, hz0, hz1, hz2⟩ := info_parts info_u8
  cases A with
  | none =>
    obtain ⟨rfl, rfl, h0⟩ := h.none_
    rw [h0]
    have k1 := fun (w : World) (a : Option Addr) (n c : Nat) => Lib.run_eql_slice_nil (P := Try.prog) w 22 5 a n c 0 0 Try.underlying22
    go_enter Try.func25, Try.ntmps25
    go_wp2
    go_ret
    exact RetS.ap (Ap.nil_ _ _ _) (Below.refl _ _)
  | some ad =>
    have k1 := fun (w : World) (a : Option Addr) (n c : Nat) => Lib.run_eql_slice_nil (P := Try.prog) w 22 5 a n c 0 0 Try.underlying22
    go_enter Try.func25, Try.ntmps25
    go_wp2_with (at_builtin; refine wpList_append_ap _ rfl _ _ 22 rfl w.heap.size 5 i0 _ 1 Try.underlying22 hi hz0 hz1 hz2 rfl _ 0 0 [] rfl (Ap.empty _ _ _ _) (some ad) n c (bvs xs) rfl (h.alloc _) (one_bvs _) (by omega) (by unfold maxLen; omega) (by simp) ?_; intro A2 c2 w2 hap hgr hb hne)
    go_ret
    simp only [Nat.zero_add, List.nil_append] at hap ⊢
    exact RetS.ap hap (((Below.refl _ _).alloc (Nat.le_refl _) _).trans hb)
end Go.Proofs.Ytbfnkddiphjdlaa
