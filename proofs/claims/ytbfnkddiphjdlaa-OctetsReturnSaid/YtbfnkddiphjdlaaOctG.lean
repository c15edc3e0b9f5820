import Derived.Test.YtbfnkddiphjdlaaOctF
namespace Go.Proofs.Ytbfnkddiphjdlaa
open Go.RowKit Go.TravelBase
set_option linter.unusedVariables false
set_option linter.unusedSimpArgs false

set_option maxHeartbeats 400000 in
theorem hex_any (A : Option Addr) (n c : Nat) (bs : List UInt8) (w : World) (h : Rd w A n c (bvs bs)) (hr : n ≤ 140737488355328) :
    Calls Try.prog 22 #[.slice A n c] w fun e w' => e = .returned (.string (strB (hexS bs))) ∧ Below w.heap.size w w' := by
  have hn := h.len
  rw [length_bvs] at hn
  have hc := h.cap
  have hcm := h.max
  obtain ⟨j0, hj, hy0, hy1, hy2⟩ := info_parts info_u8
  go_enter Try.func22, Try.ntmps22
  go_wp2_with (at_make; refine wpList_make_own _ rfl _ _ 22 rfl w.heap.size 5 j0 _ 1 Try.underlying22 hj hy0 hy1 _ _ _ (2 * n) rfl rfl (by omega) (by rw [hy2]; omega) (by unfold maxLen; omega) (Nat.le_refl _) ?_; intro w1 hown hgrow)
  have hb1 := (Below.refl w.heap.size w).grown hgrow (Nat.le_refl _) (fun k hk => by cases hk)
  clear hgrow
  go_loopw [3, 12] (fun out i wr => ∃ k : Nat, k ≤ n ∧ i = .int .i64 k ∧ out = .slice (some ⟨w.heap.size, 0, none⟩) (2 * k) (2 * n) ∧ wr.ownsRow w.heap.size 5 1 (.slice (some ⟨w.heap.size, 0, none⟩) (2 * k) (2 * n)) (2 * k) (bvs (hexS (bs.take k))) ∧ Below w.heap.size w wr)
    (fun _ i _ => n - (intOf i).toNat)
  case atStart => exact ⟨0, Nat.zero_le _, rfl, rfl, by simpa [hexS, bvs] using hown, hb1⟩
  case round =>
    clear hown hb1
    obtain ⟨k, hk, rfl, rfl, hown, hb⟩ := hrel
    by_cases hlt : k < n
    · have hr1 := h.below hb
      obtain ⟨b, off, rfl, hbl, hcell⟩ := hr1.at_ (by omega)
      have hx := hcell k (bv bs[k]) (bvs_get (List.getElem?_eq_getElem (by omega)))
      unfold bv at hx
      have hx2 := (bs[k]).toNat_lt
      clear hcell h hr1
      have k1 : ∀ w, (Instr.index 9 (.string { data := #[48, 49, 50, 51, 52, 53, 54, 55, 56, 57, 97, 98, 99, 100, 101, 102] }) (.int .u8 ((bs[k].toNat : Int) / 16))).run Try.prog w = .ok (.int .u8 ((hexd (bs[k].toNat / 16)).toNat : Int)) w :=
        fun w => run_hexT w _ Try.underlying9 .u8 (bs[k].toNat / 16) (by omega)
      have k2 : ∀ w, (Instr.index 9 (.string { data := #[48, 49, 50, 51, 52, 53, 54, 55, 56, 57, 97, 98, 99, 100, 101, 102] }) (.int .u8 ((bs[k].toNat : Int) % 16))).run Try.prog w = .ok (.int .u8 ((hexd (bs[k].toNat % 16)).toNat : Int)) w :=
        fun w => run_hexT w _ Try.underlying9 .u8 (bs[k].toNat % 16) (by omega)
      have hand : bits BinOp.and IntKind.u8 (bs[k].toNat : Int) 15 = (bs[k].toNat : Int) % 16 := u8_and15 _ (by omega) (by omega)
      generalize hd1 : hexd (bs[k].toNat / 16) = d1 at *
      generalize hd2 : hexd (bs[k].toNat % 16) = d2 at *
      have H1 := Lib.hid hd1
      have H2 := Lib.hid hd2
      clear hd1 hd2
      have hrd : Rd (wr.drew.alloc (.cells #[bv d1, bv d2] 5)) (some ⟨wr.drew.heap.size, 0, none⟩) 2 2 (bvs [d1, d2]) := Rd.lit _ _ #[bv d1, bv d2] (by simp [maxLen])
      unfold bv at hrd
      have hsz := hb.size
      go_wp2
      go_region_law (refine step_append_fits rfl _ _ 22 rfl w.heap.size 5 j0 Try.underlying22 hj hy1 w.heap.size (2 * k) (2 * n) _ rfl (hown.drew.alloc _) _ _ _ _ _ rfl hrd (one_bvs _) (by omega) (by simp; omega) ?_; intro w2 hown2 hb2)
      go_wp2
      all_goals
        have hs : hexS (bs.take (k + 1)) = hexS (bs.take k) ++ [d1, d2] := by
          rw [List.take_succ_eq_append_getElem (by omega), hexS_snoc, H1.out, H2.out]
        rw [← bvs_append, ← hs] at hown2
        go_roundw
        case rel => exact ⟨k + 1, by omega, by go_num, rfl, hown2, ((hb.drew).alloc (by simp; omega) _).trans hb2⟩
        case measure => simp [intOf]; omega
    · obtain rfl : k = n := by omega
      have k1 := conv_bytes (P := Try.prog) wr 22 9 5 Try.underlying22 Try.underlying5 Try.underlying9 (Rd.of_own hown)
      rw [List.take_of_length_le (by omega)] at k1
      clear hown h
      go_wp2
      go_ret
      exact ⟨rfl, hb⟩

set_option maxHeartbeats 400000 in
theorem rhex_any (A : Option Addr) (n c : Nat) (bs : List UInt8) (w : World) (h : Rd w A n c (bvs bs)) (hr : n ≤ 140737488355328) :
    Calls Try.prog 23 #[.slice A n c] w fun e w' => e = .returned (.string (strB (hexS bs))) ∧ Below w.heap.size w w' := by
  have hn := h.len
  rw [length_bvs] at hn
  have hc := h.cap
  have hcm := h.max
  go_enter Try.func23, Try.ntmps23
  go_wp2
  go_loopw [3, 4] (fun out i wr => ∃ k : Nat, k ≤ n ∧ i = .int .i64 k ∧ out = .string (strB (hexS (bs.take k))) ∧ ∃ q, wr = w.drewN q) (fun _ i _ => n - (intOf i).toNat)
  case atStart => exact ⟨0, Nat.zero_le _, rfl, rfl, 0, rfl⟩
  case round =>
    obtain ⟨k, hk, rfl, rfl, q, rfl⟩ := hrel
    have hsz := strB_size (hexS (bs.take k))
    rw [length_hexS, List.length_take] at hsz
    have hsz2 : (strB (hexS (bs.take k))).size ≤ 281474976710656 := by omega
    clear hsz
    by_cases hlt : k < n
    · obtain ⟨b, off, rfl, hbl, hcell⟩ := h.at_ (by omega)
      have hx := hcell k (bv bs[k]) (bvs_get (List.getElem?_eq_getElem (by omega)))
      unfold bv at hx
      have hx2 := (bs[k]).toNat_lt
      clear hcell h
      have k1 : ∀ w, (Instr.index 9 (.string { data := #[48, 49, 50, 51, 52, 53, 54, 55, 56, 57, 97, 98, 99, 100, 101, 102] }) (.int .u8 ((bs[k].toNat : Int) / 16))).run Try.prog w = .ok (.int .u8 ((hexd (bs[k].toNat / 16)).toNat : Int)) w :=
        fun w => run_hexT w _ Try.underlying9 .u8 (bs[k].toNat / 16) (by omega)
      have k2 : ∀ w, (Instr.index 9 (.string { data := #[48, 49, 50, 51, 52, 53, 54, 55, 56, 57, 97, 98, 99, 100, 101, 102] }) (.int .u8 ((bs[k].toNat : Int) % 16))).run Try.prog w = .ok (.int .u8 ((hexd (bs[k].toNat % 16)).toNat : Int)) w :=
        fun w => run_hexT w _ Try.underlying9 .u8 (bs[k].toNat % 16) (by omega)
      have hs : hexS (bs.take (k + 1)) = hexS (bs.take k) ++ [hexd (bs[k].toNat / 16), hexd (bs[k].toNat % 16)] := by
        rw [List.take_succ_eq_append_getElem (by omega), hexS_snoc]
      have HS := Lib.hid hs
      clear hs
      have he1 := enc_hexd (bs[k].toNat / 16) (by omega)
      have he2 := enc_hexd (bs[k].toNat % 16) (by omega)
      generalize hd1 : hexd (bs[k].toNat / 16) = d1 at *
      generalize hd2 : hexd (bs[k].toNat % 16) = d2 at *
      clear hd1 hd2
      have hz1 := strB_size [d1]
      have hz2 := strB_size [d2]
      simp only [List.length_singleton] at hz1 hz2
      have hi0 : (0 : Int) ≤ (k : Int) := by omega
      have hi1 : (k : Int) < (n : Int) := by omega
      go_wp2
      go_region
      go_wp2
      go_roundw
      case rel => exact ⟨k + 1, by omega, by go_num, by rw [strB_append, strB_append, HS.out]; rfl, q + 1, rfl⟩
      case measure => simp [intOf]; omega
    · go_wp2
      go_ret
      rw [List.take_of_length_le (by omega)]
      exact ⟨rfl, below_drewN (Below.refl _ _) q⟩
end Go.Proofs.Ytbfnkddiphjdlaa
