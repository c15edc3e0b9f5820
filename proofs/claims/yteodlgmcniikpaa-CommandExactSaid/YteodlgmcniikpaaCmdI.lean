import Derived.Test.YteodlgmcniikpaaCmdH
import Derived.Outline
import Derived.Deep.DeepCutAuto
import Derived.Deep.CutBlock
namespace Go.Proofs.Yteodlgmcniikpaa
open Go.RowKit Go.TravelBase
set_option linter.unusedVariables false
set_option linter.unusedSimpArgs false

/-! ### The tail, case by case -/
theorem numS_take1 {r : List UInt8} (h : 1 ≤ r.length) : numS (r.take 1) = atS r 0 := by
  match r, h with
  | x :: r, _ => simp [numS, atS]
theorem numS_one {r : List UInt8} (h : r.length = 1) : numS r = atS r 0 := by
  rw [← numS_take1 (by omega), List.take_of_length_le (by omega)]
theorem p256_1 : p256 1 = 256 := by decide +kernel
theorem p256_2 : p256 2 = 65536 := by decide +kernel
theorem atS_drop (r : List UInt8) (j k : Nat) : atS (r.drop j) k = atS r (j + k) := by simp [atS]
theorem tail0 {r : List UInt8} (h : r.length = 0) : tailS r = some ([], -1) := by unfold tailS; rw [if_pos h]
theorem tail1 {r : List UInt8} (h : r.length = 1) : tailS r = some ([], ((orS (atS r 0) 256 : Nat) : Int)) := by
  unfold tailS
  rw [if_neg (by omega), if_pos (.inl h)]
  unfold bodyS
  rw [if_pos h]
  unfold expS
  rw [numS_one h, h, p256_1]
theorem tail2 {r : List UInt8} {m N : Nat} (h : r.length = m) (h2 : 2 ≤ m) (hN : atS r 0 = N) (h0 : N ≠ 0) :
    tailS r = if m - 1 = N then some ((r.drop 1).take N, -1) else if m - 1 = N + 1 then some ((r.drop 1).take N, ((orS (atS r (m - 1)) 256 : Nat) : Int)) else none := by
  have hlt := atS_lt r 0
  unfold tailS
  rw [if_neg (by omega), if_pos (.inr (by omega))]
  unfold bodyS
  rw [if_neg (by omega), if_neg (by omega), numS_take1 (by omega), hN, List.length_drop, h]
  by_cases e1 : m - 1 = N
  · rw [if_neg (by omega), if_neg (by omega), if_pos e1]
  · rw [if_neg e1]
    by_cases e2 : m - 1 = N + 1
    · rw [if_neg (by omega), if_pos (by omega), if_pos e2]
      have e3 : ((r.drop 1).drop N).length = 1 := by simp; omega
      unfold expS
      rw [numS_one e3, e3, p256_1, atS_drop, atS_drop]
      have e4 : 1 + (N + 0) = m - 1 := by omega
      rw [e4]
    · rw [if_pos (by omega), if_neg e2]
theorem tail3 {r : List UInt8} (h : r.length = 2) (h0 : atS r 0 = 0) : tailS r = none := by
  unfold tailS
  rw [if_neg (by omega), if_neg (by omega)]
  unfold bodyS
  rw [if_neg (by simp; omega), if_pos (by simp; omega)]
theorem mid2 (r : List UInt8) : (r.take 3).drop 1 = (r.drop 1).take 2 := by rw [List.drop_take]
theorem tail4 {r : List UInt8} (h : r.length = 3) (h0 : atS r 0 = 0) : tailS r = some ([], ((orS (numS ((r.take 3).drop 1)) 65536 : Nat) : Int)) := by
  unfold tailS
  rw [if_neg (by omega), if_neg (by omega)]
  unfold bodyS
  have e : (r.drop 1).length = 2 := by simp; omega
  rw [if_pos e]
  unfold expS
  rw [e, p256_2, mid2, List.take_of_length_le (by omega : (r.drop 1).length ≤ 2)]
theorem tail5 {r : List UInt8} {m M : Nat} (h : r.length = m) (h4 : 4 ≤ m) (h0 : atS r 0 = 0) (hM : numS ((r.take 3).drop 1) = M) :
    tailS r = if M = 0 ∨ 4096 < M ∨ (m ≠ 3 + M ∧ m ≠ 5 + M) then none else if m = 3 + M then some ((r.drop 3).take M, -1) else some ((r.drop 3).take M, ((orS (numS (r.drop (m - 2))) 65536 : Nat) : Int)) := by
  unfold tailS
  rw [if_neg (by omega), if_neg (by omega)]
  unfold bodyS
  rw [if_neg (by simp; omega), if_neg (by simp; omega), ← mid2, hM, List.drop_drop, List.length_drop, h]
  by_cases b : M = 0 ∨ 4096 < M ∨ (m ≠ 3 + M ∧ m ≠ 5 + M)
  · rw [if_pos (by omega), if_pos b]
  · rw [if_neg (by omega), if_neg b]
    by_cases e : m = 3 + M
    · rw [if_neg (by omega), if_pos e]
    · rw [if_pos (by omega), if_neg e, List.drop_drop]
      have e1 : 1 + 2 + M = m - 2 := by omega
      rw [e1]
      unfold expS
      have e2 : (r.drop (m - 2)).length = 2 := by simp; omega
      rw [e2, p256_2]
/-- What the reading of the tail leaves. -/
def CutR (b : List UInt8) (b0 b1 b2 b3 m cc g off : Nat) (w : World) (s5 s6 s7 : Value) (wc : World) : Prop :=
  ∃ (A5 : Option Addr) (at_ N : Nat) (d : List UInt8) (x : Int), s5 = .slice A5 m cc ∧ (0 < N → A5 = some ⟨g, off + 4, none⟩) ∧ s6 = .int .i64 at_ ∧ s7 = .int .i64 N ∧ tailS (b.drop 4) = some (d, x) ∧ d = ((b.drop 4).drop at_).take N ∧ at_ + N ≤ m ∧ d.length = N ∧
    Bx wc w.heap.size [.int .i64 0, .int .i64 0, .int .i64 0, .int .i64 0, .slice none 0 0, .int .i64 0] ∧ Bx wc (w.heap.size + 1) [.int .i64 b0, .int .i64 b1, .int .i64 b2, .int .i64 b3, .slice none 0 0, .int .i64 x] ∧ Below w.heap.size w wc ∧ w.heap.size + 2 ≤ wc.heap.size
set_option maxHeartbeats 12000000 in
set_option maxRecDepth 100000 in
theorem rdecode_any (A : Option Addr) (n c : Nat) (b : List UInt8) (w : World) (h : Rd w A n c (bvs b)) :
    Calls Try.prog 12 #[.slice A n c] w (RetC (decS b) w) := by
  have hn := h.len
  rw [length_bvs] at hn
  have hc := h.cap
  have hm := h.max
  by_cases h4 : n < 4
  · have e : decS b = (zeroC, 6) := by unfold decS; rw [if_pos (by omega)]
    rw [e]
    clear e
    go_enter Try.func12, Try.ntmps12
    go_wp2_with (fail)
    go_returns
    exact RetC.zero 6 ((Below.refl _ _).alloc (Nat.le_refl _) _)
  · have hD : Hid (decS b = match tailS (b.drop 4) with
      | none => (zeroC, 2)
      | some (d, x) => if atS b 0 = 255 then (zeroC, 14) else (⟨atS b 0, atS b 1, atS b 2, atS b 3, d, x⟩, 0)) := by show decS b = _; unfold decS; rw [if_neg (by omega)]; rfl
    obtain ⟨g, off, rfl, hg, hcell⟩ := h.cellsB (by omega)
    have c0 : w.cell? ⟨g, off, none⟩ = _ := hcell 0 (by omega)
    have c1 := hcell 1 (by omega)
    have c2 := hcell 2 (by omega)
    have c3 := hcell 3 (by omega)
    have hc4 := Lib.hid (fun h : 4 < n => hcell 4 h)
    have hcl := Lib.hid (fun h : 4 < n => hcell (n - 1) (by omega))
    have a0 := atS_lt b 0
    have a1 := atS_lt b 1
    have a2 := atS_lt b 2
    have a3 := atS_lt b 3
    have hR : Rd w (cutA (some ⟨g, off, none⟩) c 4) (n - 4) (c - 4) (bvs (b.drop 4)) := h.dropB (by omega)
    clear hcell
    generalize atS b 0 = b0 at *
    generalize atS b 1 = b1 at *
    generalize atS b 2 = b2 at *
    generalize atS b 3 = b3 at *
    have i0 : (0 : Int) < (n : Int) := by omega
    have i1 : (1 : Int) < (n : Int) := by omega
    have i2 : (2 : Int) < (n : Int) := by omega
    have i3 : (3 : Int) < (n : Int) := by omega
    have HL : Hid ((b.drop 4).length = n - 4) := by show List.length _ = _; rw [List.length_drop]; omega
    have HZ : Hid (∀ k, atS (b.drop 4) k = atS b (4 + k)) := fun k => atS_drop b 4 k
    have e255 : (((b0 : Int) == 255) = true ∧ b0 = 255) ∨ (((b0 : Int) == 255) = false ∧ ¬ b0 = 255) := by by_cases e : b0 = 255 <;> simp [e] <;> omega
    go_enter Try.func12, Try.ntmps12
    go_wp2_with (fail)
    go_region
    go_upto_block 0 with (fail)
    generalize hA5e : (if c = 4 then some (⟨g, off, none⟩ : Addr) else some ⟨g, off + 4, none⟩) = A5
    have hA5 : Hid (4 < n → A5 = some ⟨g, off + 4, none⟩) := fun h => by rw [← hA5e, if_neg (by omega)]
    clear hA5e
    go_cut [5, 6, 7] (fun s5 s6 s7 wc => CutR b b0 b1 b2 b3 (n - 4) (c - 4) g off w s5 s6 s7 wc)
    case first =>
      clear hD
      have WB : Hid (∀ c2 T1 T2, _) := fun (c2 : Array Value) (T1 T2 : TypeId) => decW (w := w) (c1 := #[.int .i64 0, .int .i64 0, .int .i64 0, .int .i64 0, .slice none 0 0, .int .i64 0]) (c2 := c2) (T1 := T1) (T2 := T2) (Below.refl _ _)
      have WB2 : Hid (∀ c2 T1 T2, _) := fun (c2 : Array Value) (T1 T2 : TypeId) => decW2 (w := w) (c1 := #[.int .i64 0, .int .i64 0, .int .i64 0, .int .i64 0, .slice none 0 0, .int .i64 0]) (c2 := c2) (T1 := T1) (T2 := T2) (Below.refl _ _)
      rcases Nat.eq_or_lt_of_le (show 4 ≤ n by omega) with e4 | g4
      · have HT := tail0 (r := b.drop 4) (by have := HL.out; omega)
        have HT := Lib.hid HT
        have g5 : (((n - 4 : Nat) : Int) == 0) = true := by simp; omega
        clear e4
        go_wp2_with (fail)
        go_meet
        exact ⟨_, 0, 0, [], -1, rfl, by omega, rfl, rfl, HT.out, rfl, by omega, rfl, WB.out _ _ _⟩
      · obtain rfl := hA5.out g4
        clear hA5
        have hR1 : Rd w (some ⟨g, off + 4, none⟩) (n - 4) (c - 4) (bvs (b.drop 4)) := by
          unfold cutA at hR
          rw [if_neg (by omega)] at hR
          simpa [add_plain] using hR
        have c4 := hc4.out g4
        have hlast : w.cell? ⟨g, off + 4 + (n - 4 - 1), none⟩ = some (.int .u8 (atS b (n - 1) : Int)) := by
          have h1 := hcl.out g4
          have e : off + 4 + (n - 4 - 1) = off + (n - 1) := by omega
          rw [e]; exact h1
        have hr0 : atS (b.drop 4) 0 = atS b 4 := HZ.out 0
        have hrl : atS (b.drop 4) (n - 4 - 1) = atS b (n - 1) := by rw [HZ.out]; congr 1; omega
        have B4 := atS_lt b 4
        have Bl := atS_lt b (n - 1)
        generalize atS b 4 = r0 at *
        generalize atS b (n - 1) = rl at *
        clear hR HZ hc4 hcl
        have hr0 := Lib.hid hr0
        have hrl := Lib.hid hrl
        have g5 : (((n - 4 : Nat) : Int) == 0) = false := by simp; omega
        have j0 : (0 : Int) < ((n - 4 : Nat) : Int) := by omega
        have O : Hid (∀ w, Calls Try.prog 37 #[.int .i64 (r0 : Int), .int .i64 256] w fun e w' => e = .returned (.int .i64 (orS r0 256 : Nat)) ∧ w = w') := fun w => or_any r0 256 w
        have O1 : Hid (∀ w, Calls Try.prog 37 #[.int .i64 (rl : Int), .int .i64 256] w fun e w' => e = .returned (.int .i64 (orS rl 256 : Nat)) ∧ w = w') := fun w => or_any rl 256 w
        by_cases h5 : n = 5
        · have HT := tail1 (r := b.drop 4) (by have := HL.out; omega)
          rw [hr0.out] at HT
          have HT := Lib.hid HT
          have g6 : (((n - 4 : Nat) : Int) == 1) = true := by simp; omega
          clear h5
          go_wp2_with (go_at_call 37; go_must ((with_reducible refine (O.out _).mono ?_)); rintro e w1 ⟨rfl, rfl⟩)
          go_meet
          exact ⟨_, 0, 0, [], (orS r0 256 : Nat), rfl, by omega, rfl, rfl, HT.out, rfl, by omega, rfl, WB.out _ _ _⟩
        · have g6 : (((n - 4 : Nat) : Int) == 1) = false := by simp; omega
          by_cases hr : r0 = 0
          · subst hr
            have g7 : (((0 : Nat) : Int) != 0) = false := rfl
            by_cases h6 : n = 6
            · have E : decS b = (zeroC, 2) := by unfold decS; rw [if_neg (by omega), tail3 (by have := HL.out; omega) hr0.out]
              have E0 := Lib.hid E
              clear E
              have g8 : (((n - 4 : Nat) : Int) == 2) = true := by simp; omega
              clear h5 h6
              go_wp2_with (fail)
              go_returns
              rw [E0.out]
              exact RetC.zero 2 (WB.out _ _ _).2.2.1
            · have g8 : (((n - 4 : Nat) : Int) == 2) = false := by simp; omega
              have hq : Rd w (some ⟨g, off + 4 + 1, none⟩) 2 (c - 4 - 1) (bvs (((b.drop 4).take 3).drop 1)) := by
                have h1 := hR1.sliceB (k := 1) (m := 3) (by omega) (by omega)
                unfold cutA at h1
                rw [if_neg (by omega)] at h1
                simpa [add_plain] using h1
              have hN := fun w => rnumber_any (some ⟨g, off + 4 + 1, none⟩) 2 (c - 4 - 1) (((b.drop 4).take 3).drop 1) w
              obtain ⟨q1, q2⟩ := numV_small (bs := ((b.drop 4).take 3).drop 1) (by rw [List.length_drop, List.length_take]; omega)
              have hM := numS_lt (((b.drop 4).take 3).drop 1)
              have hl2 : (((b.drop 4).take 3).drop 1).length = 2 := by rw [List.length_drop, List.length_take]; have := HL.out; omega
              rw [hl2] at hM
              have p2 : (256 : Nat) ^ 2 = 65536 := by decide +kernel
              rw [p2] at hM
              rw [q1, q2] at hN
              clear q1 q2 hl2 p2
              generalize hMe : numS (((b.drop 4).take 3).drop 1) = M at *
              have hMe := Lib.hid hMe
              have RN := Lib.hid hN
              clear hN
              have t1 : ¬ (c - 4 = 1) := by omega
              have t3 : (3 : Int) ≤ ((n - 4 : Nat) : Int) := by omega
              have OM : Hid (∀ w, Calls Try.prog 37 #[.int .i64 (M : Int), .int .i64 65536] w fun e w' => e = .returned (.int .i64 (orS M 65536 : Nat)) ∧ w = w') := fun w => or_any M 65536 w
              by_cases h7 : n = 7
              · have HT := tail4 (r := b.drop 4) (by have := HL.out; omega) hr0.out
                rw [hMe.out] at HT
                have HT := Lib.hid HT
                have g9 : (((n - 4 : Nat) : Int) == 3) = true := by simp; omega
                clear h5 h6 h7
                go_wp2_with (first | (go_at_call 38; go_must ((with_reducible refine (RN.out _ ((hq.alloc _).alloc _).drew).mono ?_)); rintro e w1 ⟨rfl, rfl⟩) | (go_at_call 37; go_must ((with_reducible refine (OM.out _).mono ?_)); rintro e w1 ⟨rfl, rfl⟩))
                go_meet
                exact ⟨_, 0, 0, [], (orS M 65536 : Nat), rfl, by omega, rfl, rfl, HT.out, rfl, by omega, rfl, WB.out _ _ _⟩
              · have g9 : (((n - 4 : Nat) : Int) == 3) = false := by simp; omega
                have HT := tail5 (r := b.drop 4) (m := n - 4) (M := M) HL.out (by omega) hr0.out hMe.out
                by_cases bad : M = 0 ∨ 4096 < M ∨ (n - 4 ≠ 3 + M ∧ n - 4 ≠ 5 + M)
                · rw [if_pos bad] at HT
                  have E : decS b = (zeroC, 2) := by unfold decS; rw [if_neg (by omega), HT]
                  have E := Lib.hid E
                  clear HT
                  by_cases m0 : M = 0
                  · have u0 : ((M : Int) == 0) = true := by simp; omega
                    clear m0 bad h5 h6 h7
                    go_wp2_with (go_at_call 38; go_must ((with_reducible refine (RN.out _ ((hq.alloc _).alloc _).drew).mono ?_)); rintro e w1 ⟨rfl, rfl⟩)
                    go_returns
                    rw [E.out]
                    exact RetC.zero 2 (WB.out _ _ _).2.2.1
                  · have u0 : ((M : Int) == 0) = false := by simp; omega
                    by_cases m1 : n - 4 ≠ 3 + M ∧ n - 4 ≠ 5 + M
                    · have u1 : (((n - 4 : Nat) : Int) - 3 - (M : Int) != 0) = true := by simp; omega
                      have u2 : (((n - 4 : Nat) : Int) - 3 - (M : Int) != 2) = true := by simp; omega
                      clear m0 m1 bad h5 h6 h7
                      go_wp2_with (go_at_call 38; go_must ((with_reducible refine (RN.out _ ((hq.alloc _).alloc _).drew).mono ?_)); rintro e w1 ⟨rfl, rfl⟩)
                      go_returns
                      rw [E.out]
                      exact RetC.zero 2 (WB.out _ _ _).2.2.1
                    · have m2 : 4096 < M := by omega
                      by_cases m3 : n - 4 = 3 + M
                      · have u1 : (((n - 4 : Nat) : Int) - 3 - (M : Int) != 0) = false := by simp; omega
                        clear m0 m1 m3 bad h5 h6 h7
                        go_wp2_with (go_at_call 38; go_must ((with_reducible refine (RN.out _ ((hq.alloc _).alloc _).drew).mono ?_)); rintro e w1 ⟨rfl, rfl⟩)
                        go_returns
                        rw [E.out]
                        exact RetC.zero 2 (WB.out _ _ _).2.2.1
                      · have u1 : (((n - 4 : Nat) : Int) - 3 - (M : Int) != 0) = true := by simp; omega
                        have u2 : (((n - 4 : Nat) : Int) - 3 - (M : Int) != 2) = false := by simp; omega
                        clear m0 m1 m3 bad h5 h6 h7
                        go_wp2_with (go_at_call 38; go_must ((with_reducible refine (RN.out _ ((hq.alloc _).alloc _).drew).mono ?_)); rintro e w1 ⟨rfl, rfl⟩)
                        go_returns
                        rw [E.out]
                        exact RetC.zero 2 (WB.out _ _ _).2.2.1
                · rw [if_neg bad] at HT
                  have u0 : ((M : Int) == 0) = false := by simp; omega
                  have m4 : M ≤ 4096 := by omega
                  by_cases m3 : n - 4 = 3 + M
                  · rw [if_pos m3] at HT
                    have HT := Lib.hid HT
                    have u1 : (((n - 4 : Nat) : Int) - 3 - (M : Int) != 0) = false := by simp; omega
                    have u3 : (((n - 4 : Nat) : Int) - 3 - (M : Int) == 2) = false := by simp; omega
                    have K1 : Hid (3 + M ≤ n - 4 ∧ (((b.drop 4).drop 3).take M).length = M) := ⟨by omega, by have := HL.out; rw [List.length_take, List.length_drop]; omega⟩
                    clear m3 bad h5 h6 h7
                    go_wp2_with (go_at_call 38; go_must ((with_reducible refine (RN.out _ ((hq.alloc _).alloc _).drew).mono ?_)); rintro e w1 ⟨rfl, rfl⟩)
                    go_meet
                    exact ⟨_, 3, M, _, -1, rfl, fun _ => rfl, rfl, rfl, HT.out, rfl, K1.out.1, K1.out.2, WB.out _ _ _⟩
                  · rw [if_neg m3] at HT
                    have u1 : (((n - 4 : Nat) : Int) - 3 - (M : Int) != 0) = true := by simp; omega
                    have u2 : (((n - 4 : Nat) : Int) - 3 - (M : Int) != 2) = false := by simp; omega
                    have u3 : (((n - 4 : Nat) : Int) - 3 - (M : Int) == 2) = true := by simp; omega
                    have K1 : Hid (3 + M ≤ n - 4 ∧ (((b.drop 4).drop 3).take M).length = M) := ⟨by omega, by have := HL.out; rw [List.length_take, List.length_drop]; omega⟩
                    have hq2 : Rd w (some ⟨g, off + 4 + (n - 4 - 2), none⟩) (n - 4 - (n - 4 - 2)) (c - 4 - (n - 4 - 2)) (bvs ((b.drop 4).drop (n - 4 - 2))) := by
                      have h1 := hR1.dropB (k := n - 4 - 2) (by omega)
                      unfold cutA at h1
                      rw [if_neg (by omega)] at h1
                      simpa [add_plain] using h1
                    have t2 : ¬ (c - 4 = n - 4 - 2) := by omega
                    have hl3 : ((b.drop 4).drop (n - 4 - 2)).length = 2 := by rw [List.length_drop]; have := HL.out; omega
                    have hN3 := fun w => rnumber_any (some ⟨g, off + 4 + (n - 4 - 2), none⟩) (n - 4 - (n - 4 - 2)) (c - 4 - (n - 4 - 2)) ((b.drop 4).drop (n - 4 - 2)) w
                    obtain ⟨q1, q2⟩ := numV_small (bs := (b.drop 4).drop (n - 4 - 2)) (by omega)
                    have hM3 := numS_lt ((b.drop 4).drop (n - 4 - 2))
                    have p2 : (256 : Nat) ^ 2 = 65536 := by decide +kernel
                    rw [hl3, p2] at hM3
                    rw [q1, q2] at hN3
                    clear q1 q2 hl3 p2
                    generalize numS ((b.drop 4).drop (n - 4 - 2)) = M3 at *
                    have RN3 := Lib.hid hN3
                    have HT := Lib.hid HT
                    have OM3 : Hid (∀ w, Calls Try.prog 37 #[.int .i64 (M3 : Int), .int .i64 65536] w fun e w' => e = .returned (.int .i64 (orS M3 65536 : Nat)) ∧ w = w') := fun w => or_any M3 65536 w
                    clear m3 bad h5 h6 h7 hN3
                    go_wp2_with (first | (go_at_call 38; ((with_reducible refine (RN.out _ ((hq.alloc _).alloc _).drew).mono ?_)); rintro e w1 ⟨rfl, rfl⟩) | (go_at_call 38; go_must ((with_reducible refine (RN3.out _ ((hq2.alloc _).alloc _).drew).mono ?_)); rintro e w1 ⟨rfl, rfl⟩) | (go_at_call 37; go_must ((with_reducible refine (OM3.out _).mono ?_)); rintro e w1 ⟨rfl, rfl⟩))
                    go_meet
                    exact ⟨_, 3, M, _, (orS M3 65536 : Nat), rfl, fun _ => rfl, rfl, rfl, HT.out, rfl, K1.out.1, K1.out.2, WB.out _ _ _⟩
          · have HT := tail2 (r := b.drop 4) (m := n - 4) (N := r0) HL.out (by omega) hr0.out hr
            rw [hrl.out] at HT
            have HT := Lib.hid HT
            have g7 : ((r0 : Int) != 0) = true := by simp; omega
            have j1 : (0 : Int) ≤ ((n - 4 : Nat) : Int) - 1 := by omega
            have j2 : ((n - 4 : Nat) : Int) - 1 < ((n - 4 : Nat) : Int) := by omega
            go_wp2_with (fail)
            go_region
            by_cases k0 : n - 4 - 1 = r0
            · have f1 : (((n - 4 : Nat) : Int) - 1 - (r0 : Int) == 0) = true := by simp; omega
              have HT2 := Lib.hid (HT.out.trans (if_pos k0))
              clear HT
              go_wp2_with (fail)
              go_meet
              exact ⟨_, 1, r0, _, -1, rfl, fun _ => rfl, rfl, rfl, HT2.out, rfl, by omega, by have := HL.out; rw [List.length_take, List.length_drop]; omega, WB2.out _ _ _⟩
            · have f1 : (((n - 4 : Nat) : Int) - 1 - (r0 : Int) == 0) = false := by simp; omega
              by_cases k1 : n - 4 - 1 = r0 + 1
              · have f2 : (((n - 4 : Nat) : Int) - 1 - (r0 : Int) == 1) = true := by simp; omega
                have HT2 := Lib.hid (HT.out.trans ((if_neg k0).trans (if_pos k1)))
                have K1 : Hid (1 + r0 ≤ n - 4 ∧ (((b.drop 4).drop 1).take r0).length = r0) := ⟨by omega, by have := HL.out; rw [List.length_take, List.length_drop]; omega⟩
                clear HT k1 k0
                go_wp2_with (go_at_call 37; go_must ((with_reducible refine (O1.out _).mono ?_)); rintro e w1 ⟨rfl, rfl⟩)
                go_meet
                exact ⟨_, 1, r0, _, (orS rl 256 : Nat), rfl, fun _ => rfl, rfl, rfl, HT2.out, rfl, K1.out.1, K1.out.2, WB2.out _ _ _⟩
              · have f2 : (((n - 4 : Nat) : Int) - 1 - (r0 : Int) == 1) = false := by simp; omega
                have HT2 := Lib.hid (HT.out.trans ((if_neg k0).trans (if_neg k1)))
                clear HT k1 k0
                go_wp2_with (fail)
                go_returns
                have E : decS b = (zeroC, 2) := by unfold decS; rw [if_neg (by omega), HT2.out]
                rw [E]
                exact RetC.zero 2 (WB2.out _ _ _).2.2.1
    case rest =>
      obtain ⟨A6, at_, N, d, x, rfl, hA6, rfl, rfl, HT, Hd, hat, hdl, X1, X2, hB, hsz⟩ := hcut
      have hd4 := (tailS_ok HT).1
      have hD0 := hD.out
      rw [HT] at hD0
      have HD := Lib.hid hD0
      clear hD hD0 HT
      have Hd := Lib.hid Hd
      have Hdl := Lib.hid hdl
      clear hdl
      have y0 := X2.cell 0 rfl; have y1 := X2.cell 1 rfl; have y2 := X2.cell 2 rfl; have y3 := X2.cell 3 rfl; have y4 := X2.cell 4 rfl; have y5 := X2.cell 5 rfl; have y6 := fun j => X2.free j
      rcases e255 with ⟨e1, e2⟩ | ⟨e1, e2⟩
      · have E : Hid (decS b = (zeroC, 14)) := HD.out.trans (if_pos e2)
        clear HD e2
        go_wp2_with (first | ((with_reducible refine at_store 2 ?_); refine wpList_store_bx w.heap.size _ _ X1 (by rfl) (by rfl) 6 size_cmd (by rfl) (by rfl) (by rfl) ?_; intro w9 X1' hg; have hB' := hB.grown hg (by omega) (by intro k hk; injection hk with hk; omega); clear X1 hB; have X1 := X1'; have hB := hB'; clear X1' hB'; have z0 := X1.cell 0 rfl; have z1 := X1.cell 1 rfl; have z2 := X1.cell 2 rfl; have z3 := X1.cell 3 rfl; have z4 := X1.cell 4 rfl; have z5 := X1.cell 5 rfl) | ((with_reducible refine at_load 4 ?_); refine wpList_load_bx (w.heap.size + 1) _ _ 6 X2 (by rfl) Try.underlying24 size_cmd (by rfl) ?_))
        (try simp only [Exit.inBlock, Exit.then]); refine bodyPost_ret (by simp [results, Try.results12, go_sem, z0, z1, z2, z3, z4, z5]; rfl) rfl ?_
        rw [E.out]
        exact RetC.zero 14 hB
      · have E : Hid (decS b = (⟨b0, b1, b2, b3, d, x⟩, 0)) := HD.out.trans (if_neg e2)
        clear HD e2
        by_cases hN : 0 < N
        · obtain rfl := hA6 hN
          clear hA6 hA5
          have hc4 : ¬ c = 4 := by omega
          have hca : ¬ (c - 4 = at_) := by omega
          have hR1 : Rd w (some ⟨g, off + 4, none⟩) (n - 4) (c - 4) (bvs (b.drop 4)) := by
            unfold cutA at hR
            rw [if_neg (by omega)] at hR
            simpa [add_plain] using hR
          have hRd : Rd w (some ⟨g, off + 4 + at_, none⟩) N (c - 4 - at_) (bvs d) := by
            have h1 := (hR1.dropB (k := at_) (by omega)).takeB (k := N) (by omega)
            unfold cutA at h1
            rw [if_neg (by omega)] at h1
            rw [Hd.out]
            simpa [add_plain] using h1
          have hRw : Rd wc (some ⟨g, off + 4 + at_, none⟩) (at_ + N - at_) (c - 4 - at_) (bvs d) := by rw [Nat.add_sub_cancel_left]; exact hRd.below hB
          clear hR hR1 hRd
          have hN4 : N ≤ 4096 := by have := Hdl.out; omega
          obtain ⟨i0, hi, hz0, hz1, hz2⟩ := info_parts info_u8
          go_wp2_with (first | ((with_reducible refine at_store 2 ?_); refine wpList_store_bx w.heap.size _ _ X1 (by rfl) (by rfl) 6 size_cmd (by rfl) (by rfl) (by rfl) ?_; intro w9 X1' hg; have hB' := hB.grown hg (by omega) (by intro k hk; injection hk with hk; omega); have hap' := ap_grown hap hg (by omega); clear X1 hB hap; have X1 := X1'; have hB := hB'; have hap := hap'; clear X1' hB' hap'; have z0 := X1.cell 0 rfl; have z1 := X1.cell 1 rfl; have z2 := X1.cell 2 rfl; have z3 := X1.cell 3 rfl; have z4 := X1.cell 4 rfl; have z5 := X1.cell 5 rfl) | ((with_reducible refine at_load 4 ?_); refine wpList_load_bx (w.heap.size + 1) _ _ 6 X2 (by rfl) Try.underlying24 size_cmd (by rfl) ?_) | (at_builtin; go_must (refine wpList_append_apN _ rfl (.const (.slice none 0 0)) (.tmp 141) 22 rfl (w.heap.size + 2) 5 i0 _ 1 Try.underlying22 hi hz0 hz1 hz2 rfl none 0 0 [] rfl (Ap.nil_ _ _ _) _ _ _ (bvs d) rfl hRw (one_bvs _) (by omega) (by unfold maxLen; omega) hsz ?_); intro Nn A2 c2 w2 hNn hNl hap hk hb3; simp only [List.nil_append] at hap; go_must ((have X1' := X1.belowAt hb3 (by omega); have X2' := X2.belowAt hb3 (by omega); have hB' := hB.trans (hb3.mono (by omega)); have hsz' := Nat.le_trans hsz hb3.size; clear X1 X2 hB hsz y0 y1 y2 y3 y4 y5 y6 hk; have X2 := X2'; have y0 := X2.cell 0 rfl; have y1 := X2.cell 1 rfl; have y2 := X2.cell 2 rfl; have y3 := X2.cell 3 rfl; have y4 := X2.cell 4 rfl; have y5 := X2.cell 5 rfl; have y6 := fun j => X2.free j; have X1 := X1'.far (a := ⟨w.heap.size + 1, 4, none⟩) (by simp) (.slice A2 Nn c2); clear X2; have X2 : Bx _ _ [.int .i64 b0, .int .i64 b1, .int .i64 b2, .int .i64 b3, .slice A2 Nn c2, .int .i64 x] := X2'.set 4 (.slice A2 Nn c2); have hap' := ap_setCell hap (a := ⟨w.heap.size + 1, 4, none⟩) (by simp) (.slice A2 Nn c2); have hB := hB'.setCell (p := ⟨w.heap.size + 1, 4, none⟩) (by simp) (.slice A2 Nn c2); clear hap; have hap := hap'; have hsz : w.heap.size + 2 ≤ (w2.setCell ⟨w.heap.size + 1, 4, none⟩ (.slice A2 Nn c2)).heap.size := Nat.le_trans hsz' (by simp); clear X1' X2' hap' hB' hsz' hb3))))
          (try simp only [Exit.inBlock, Exit.then]); refine bodyPost_ret (by simp [results, Try.results12, go_sem, z0, z1, z2, z3, z4, z5]; rfl) rfl ?_
          rw [E.out]
          have eN : Nn = d.length := by have := hNn.out; have := Hdl.out; omega
          subst eN
          exact ⟨_, _, rfl, hap.base (by omega), hB⟩
        · have hN0 : N = 0 := by omega
          clear hA6 hA5
          have hd : d = [] := List.eq_nil_of_length_eq_zero (by rw [Hdl.out, hN0])
          subst hd
          go_wp2_with (first | ((with_reducible refine at_store 2 ?_); refine wpList_store_bx w.heap.size _ _ X1 (by rfl) (by rfl) 6 size_cmd (by rfl) (by rfl) (by rfl) ?_; intro w9 X1' hg; have hB' := hB.grown hg (by omega) (by intro k hk; injection hk with hk; omega); clear X1 hB; have X1 := X1'; have hB := hB'; clear X1' hB'; have z0 := X1.cell 0 rfl; have z1 := X1.cell 1 rfl; have z2 := X1.cell 2 rfl; have z3 := X1.cell 3 rfl; have z4 := X1.cell 4 rfl; have z5 := X1.cell 5 rfl) | ((with_reducible refine at_load 4 ?_); refine wpList_load_bx (w.heap.size + 1) _ _ 6 X2 (by rfl) Try.underlying24 size_cmd (by rfl) ?_))
          (try simp only [Exit.inBlock, Exit.then]); refine bodyPost_ret (by simp [results, Try.results12, go_sem, z0, z1, z2, z3, z4, z5]; rfl) rfl ?_
          rw [E.out]
          exact ⟨none, 0, rfl, Ap.empty _ _ _ _, hB⟩
end Go.Proofs.Yteodlgmcniikpaa
