import Derived.Test.YtbfnkddiphjdlaaOctJ
namespace Go.Proofs.Ytbfnkddiphjdlaa
open Go.RowKit Go.TravelBase
set_option linter.unusedVariables false
set_option linter.unusedSimpArgs false

set_option maxHeartbeats 400000 in
theorem awake1 (w : World) : Calls Try.prog 12 #[] w fun e w' => e = .returned (.bool true) ∧ Below w.heap.size w w' := by
  have e1 : octE 258 2 = 0 := by decide
  have e2 : octL 258 2 = [1, 2] := by decide
  have e3 : hexS [1, 2] = [48, 49, 48, 50] := by decide
  have O := octets_any 258 2
  rw [e1, e2] at O
  have HO := Lib.hid O
  have E3 := Lib.hid e3
  clear O e1 e2 e3
  go_enter Try.func12, Try.ntmps12
  go_wp2_with (first
    | (go_at_call 10; go_must (refine (HO.out _ (by omega) (by omega)).mono ?_); rintro e w1 ⟨A1, c1, rfl, hap1, hb1⟩)
    | (go_at_call 13; go_must (refine (rsame_any _ _ _ _ _ _ [1, 2] [1, 2] _ (hap1.rd.alloc _) (Rd.lit _ _ #[_, _] (by simp [maxLen]))).mono ?_); rintro e w2 ⟨rfl, m, rfl⟩)
    | (go_at_call 22; go_must (refine (hex_any _ _ _ [1, 2] _ ((hap1.rd.alloc _).drewN m) (by simp)).mono ?_); rintro e w3 ⟨rfl, hb3⟩))
  go_ret
  refine ⟨by rw [strB_toList, E3.out]; rfl, ?_⟩
  exact (Below.of_base (below_drewN ((hb1).alloc (by have := hb1.size; omega) _) m) hb3 (by have := hb1.size; simp; omega))

set_option maxHeartbeats 400000 in
theorem walk_OctetsNumber (A : Option Addr) (n c : Nat) (bs : List UInt8) (a1 a2 : Int) (w : World) (h : Rd w A n c (bvs bs)) (h1 : -9223372036854775808 ≤ a1 ∧ a1 ≤ 9223372036854775807) (h2 : -9223372036854775808 ≤ a2 ∧ a2 ≤ 9223372036854775807) :
    Calls Try.prog 3 #[.slice A n c, .int .i64 a1, .int .i64 a2] w fun e w' => e = .returned (.bool true) ∧ Below w.heap.size w w' := by
  go_enter Try.func3, Try.ntmps3
  go_wp2_with (first
    | (go_at_call 8; go_must (refine (number_any _ _ _ bs _ h).mono ?_); rintro e w1 ⟨rfl, rfl⟩)
    | (go_at_call 9; go_must (refine (rnumber_any _ _ _ bs _ h).mono ?_); rintro e w1 ⟨rfl, rfl⟩)
    | (go_at_call 10; go_must (refine (octets_any _ _ _ h1 h2).mono ?_); rintro e w1 ⟨A1, c1, rfl, hap1, hb1⟩)
    | (go_at_call 11; go_must (refine (roctets_any _ _ _ h1 h2).mono ?_); rintro e w2 ⟨A2, c2, rfl, hap2, hb2⟩)
    | (go_at_call 12; go_must (refine (awake1 _).mono ?_); rintro e w3 ⟨rfl, hb3⟩)
    | (go_at_call 13; go_must (refine (rsame_any _ _ _ _ _ _ _ _ _ ((hap1.below hb2).below hb3).rd (hap2.below hb3).rd).mono ?_); rintro e w4 ⟨rfl, m, rfl⟩))
  go_ret
  have := hb1.size
  have := hb2.size
  exact ⟨by simp, below_drewN (Below.of_base (Below.of_base hb1 hb2 (by omega)) hb3 (by omega)) m⟩

set_option maxHeartbeats 400000 in
theorem walk_OctetsXor (A : Option Addr) (n c : Nat) (xs : List UInt8) (A' : Option Addr) (n' c' : Nat) (ys : List UInt8) (w : World) (h : Rd w A n c (bvs xs)) (hr : c * 1 ≤ 140737488351232) (h' : Rd w A' n' c' (bvs ys)) (hr' : c' * 1 ≤ 140737488351232) :
    Calls Try.prog 4 #[.slice A n c, .slice A' n' c'] w fun e w' => e = .returned (.bool true) ∧ Below w.heap.size w w' := by
  have hc := h.cap
  have hn : n ≤ 140737488355328 := by omega
  generalize he : (if xs.length = ys.length then (0 : Int) else 2) = E at *
  have X1 := Lib.hid (fun w h h' => xor_any A A' n c n' c' xs ys w h h' hn)
  have X2 := Lib.hid (fun w h h' => rxor_any A A' n c n' c' xs ys w h h' hn)
  rw [he] at X1 X2
  clear he
  go_enter Try.func4, Try.ntmps4
  go_wp2_with (first
    | (go_at_call 14; go_must (refine (X1.out _ h h').mono ?_); rintro e w1 ⟨A1, c1, rfl, hap1, hb1⟩)
    | (go_at_call 15; go_must (refine (X2.out _ (h.below hb1) (h'.below hb1)).mono ?_); rintro e w2 ⟨A2, c2, rfl, hap2, hb2⟩; have hr1 := ((h.below hb1).below hb2); have hr2 := ((h'.below hb1).below hb2))
    | (go_at_call 12; go_must (refine (awake1 _).mono ?_); rintro e w3 ⟨rfl, hb3⟩))
  have hq1 := hr1.below hb3
  have hq2 := hr2.below hb3
  go_must (refine (rsame_any _ _ _ _ _ _ _ _ _ ((hap1.below hb2).below hb3).rd (hap2.below hb3).rd).mono ?_)
  rintro e w4 ⟨rfl, m, rfl⟩
  go_wp2_with (fail)
  go_must (refine (same_any _ _ _ _ _ _ xs ys _ (hq1.drewN m) (hq2.drewN m)).mono ?_)
  rintro e w5 ⟨rfl, rfl⟩
  go_wp2_with (fail)
  go_must (refine (rsame_any _ _ _ _ _ _ xs ys _ (hq1.drewN m) (hq2.drewN m)).mono ?_)
  rintro e w5 ⟨rfl, m2, rfl⟩
  go_wp2_with (fail)
  go_must (refine (same_any _ _ _ _ _ _ xs xs _ (hq1.drewN _) (hq1.drewN _)).mono ?_)
  rintro e w5 ⟨rfl, rfl⟩
  go_wp2_with (fail)
  go_ret
  have := hb1.size
  have := hb2.size
  exact ⟨by simp, below_drewN (Below.of_base (Below.of_base hb1 hb2 (by omega)) hb3 (by omega)) _⟩

set_option maxHeartbeats 400000 in
theorem walk_OctetsHex (A : Option Addr) (n c : Nat) (bs : List UInt8) (s : ByteArray) (w : World) (h : Rd w A n c (bvs bs)) (hr : c * 1 ≤ 140737488351232) (hs : s.size ≤ 140737488351232) :
    Calls Try.prog 6 #[.slice A n c, .string s] w fun e w' => e = .returned (.bool true) ∧ Below w.heap.size w w' := by
  have hc := h.cap
  have hn : n ≤ 140737488355328 := by omega
  have hl : s.data.toList.length ≤ 281474976710656 := by
    have e : s.data.toList.length = s.size := by rw [Array.length_toList]; rfl
    omega
  rw [← strB_eta s]
  generalize s.data.toList = l at *
  clear hs
  go_enter Try.func6, Try.ntmps6
  go_wp2_with (first
    | (go_at_call 20; go_must (refine (unhex_any l _ hl).mono ?_); rintro e w1 ⟨A1, c1, rfl, hap1, hb1⟩; have hb1s := hb1.size)
    | (go_at_call 21; go_must (refine (runhex_any l _ hl).mono ?_); rintro e w2 ⟨A2, c2, rfl, hap2, hb2⟩; have hb2s := hb2.size)
    | (go_at_call 12; go_must (refine (awake1 _).mono ?_); rintro e w3 ⟨rfl, hb3⟩; have hb3s := hb3.size; have hr3 := ((h.below hb1).below hb2).below hb3)
    | (go_at_call 22; go_must (refine (hex_any _ _ _ bs _ hr3 hn).mono ?_); rintro e w4 ⟨rfl, hb4⟩; have hb4s := hb4.size)
    | (go_at_call 23; go_must (refine (rhex_any _ _ _ bs _ (hr3.below hb4) hn).mono ?_); rintro e w5 ⟨rfl, hb5⟩; have hb5s := hb5.size)
    | (go_at_call 13; go_must (refine (rsame_any _ _ _ _ _ _ _ _ _ ((((hap1.below hb2).below hb3).below hb4).below hb5).rd (((hap2.below hb3).below hb4).below hb5).rd).mono ?_); rintro e w6 ⟨rfl, m, rfl⟩))
  go_ret
  exact ⟨by simp, below_drewN (Below.of_base (Below.of_base (Below.of_base (Below.of_base hb1 hb2 (by omega)) hb3 (by omega)) hb4 (by omega)) hb5 (by omega)) _⟩
end Go.Proofs.Ytbfnkddiphjdlaa
