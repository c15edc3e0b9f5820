import Derived.Test.YtbfnkddiphjdlaaRows
import Derived.Test.YtbfnkddiphjdlaaBase
import Derived.BigQuiet
namespace Go.Proofs.Ytbfnkddiphjdlaa
open Go.RowKit Go.TravelBase
set_option linter.unusedVariables false
set_option linter.unusedSimpArgs false

theorem info_u8 : (Try.prog.info? 5).map (fun i => (i.zero, i.size, i.bytes)) = some (some (.int .u8 0), 1, 1) := by kernel_rfl

/-! ### Octets: a number as bytes -/
def octE (n size : Int) : Int := if size < 0 ∨ 7 < size then 2 else if n < 0 ∨ (p256 size.toNat : Int) ≤ n then 3 else 0
def octL (n size : Int) : List UInt8 := if octE n size = 0 then beS n.toNat size.toNat else []

set_option maxHeartbeats 400000 in
theorem octets_any (n size : Int) (w : World) (hn : -9223372036854775808 ≤ n ∧ n ≤ 9223372036854775807) (hs : -9223372036854775808 ≤ size ∧ size ≤ 9223372036854775807) :
    Calls Try.prog 10 #[.int .i64 n, .int .i64 size] w (RetSE 5 (octL n size).length (bvs (octL n size)) (octE n size) w) := by
  by_cases h1 : size < 0 ∨ 7 < size
  · have e1 : octE n size = 2 := by simp [octE, h1]
    have e2 : octL n size = [] := by simp [octL, e1]
    rw [e1, e2]
    clear e1 e2
    rcases h1 with h1 | h1
    · go_enter Try.func10, Try.ntmps10
      go_wp2
      go_ret2
      exact RetSE.nil_ _ _ _
    · have h0 : ¬ size < 0 := by omega
      go_enter Try.func10, Try.ntmps10
      go_wp2
      go_ret2
      exact RetSE.nil_ _ _ _
  · have h2 : ¬ size < 0 := by omega
    have h3 : ¬ 7 < size := by omega
    obtain ⟨s, rfl⟩ := Int.eq_ofNat_of_zero_le (show 0 ≤ size by omega)
    by_cases h4 : n < 0
    · have e1 : octE n s = 3 := by simp only [octE]; rw [if_neg (by omega), if_pos (by omega)]
      have e2 : octL n s = [] := by simp [octL, e1]
      rw [e1, e2]
      clear e1 e2
      go_enter Try.func10, Try.ntmps10
      go_wp2
      go_ret2
      exact RetSE.nil_ _ _ _
    · obtain ⟨n, rfl⟩ := Int.eq_ofNat_of_zero_le (show 0 ≤ n by omega)
      by_cases h5 : n < p256 s
      · have e1 : octE n s = 0 := by simp only [octE]; rw [if_neg (by omega), if_neg (by simp only [Int.toNat_natCast]; omega)]
        have e2 : octL n s = beS n s := by simp [octL, e1]
        rw [e1, e2, length_beS]
        clear e1 e2
        have g := shr_zero n s (by omega) (by omega)
        obtain ⟨i0, hi, hz0, hz1, hz2⟩ := info_parts info_u8
        go_enter Try.func10, Try.ntmps10
        go_wp2_with (at_make; refine wpList_make_full _ rfl _ _ 22 rfl w.heap.size 5 i0 _ 1 Try.underlying22 hi hz0 hz1 _ _ _ _ s rfl rfl rfl rfl (by rw [hz2]; omega) (by unfold maxLen; omega) (Nat.le_refl _) ?_; intro w1 hown hgrow)
        rw [made_bytes] at hown
        have hb1 := (Below.refl w.heap.size w).grown hgrow (Nat.le_refl _) (fun k hk => by cases hk)
        clear g hgrow
        go_loopw [26] (fun i wr => ∃ k : Nat, k ≤ s ∧ i = .int .i64 k ∧ wr.ownsRow w.heap.size 5 1 (.slice (some ⟨w.heap.size, 0, none⟩) s s) s (List.replicate (s - k) (.int .u8 0) ++ bvs (beS n k)) ∧ Below w.heap.size w wr)
          (fun i _ => s - (intOf i).toNat)
        case atStart => exact ⟨0, Nat.zero_le _, rfl, by simpa [beS, bvs] using hown, hb1⟩
        case round =>
          clear hown hb1
          obtain ⟨k, hk, rfl, hown, hb⟩ := hrel
          by_cases hlt : k < s
          · obtain ⟨⟨u, hu⟩, hf, hlw⟩ := own_cell hown (j := s - 1 - k) (by omega)
            go_wp2
            go_roundw
            case rel => exact ⟨k + 1, by omega, by go_num, be_step hlt hown (by rw [be_shr]), hb.setCell (Nat.le_refl _) _⟩
            case measure => simp [intOf]; omega
          · obtain rfl : k = s := by omega
            go_wp2
            go_ret2
            exact RetSE.own (by simpa using hown) hb
      · have e1 : octE n s = 3 := by simp only [octE]; rw [if_neg (by omega), if_pos (by simp only [Int.toNat_natCast]; omega)]
        have e2 : octL n s = [] := by simp [octL, e1]
        rw [e1, e2]
        clear e1 e2
        have g := shr_pos n s (by omega)
        go_enter Try.func10, Try.ntmps10
        go_wp2
        go_ret2
        exact RetSE.nil_ _ _ _
end Go.Proofs.Ytbfnkddiphjdlaa
