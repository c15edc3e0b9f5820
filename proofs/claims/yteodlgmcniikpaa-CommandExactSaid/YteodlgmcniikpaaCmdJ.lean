import Derived.Test.YteodlgmcniikpaaCmdH
namespace Go.Proofs.Yteodlgmcniikpaa
open Go.RowKit Go.TravelBase
set_option linter.unusedVariables false
set_option linter.unusedSimpArgs false

set_option maxHeartbeats 1000000 in
theorem sameC_true (k : Cmd) (A A' : Option Addr) (n c c' : Nat) (w : World) (h : Rd w A n c (bvs k.data)) (h' : Rd w A' n c' (bvs k.data)) :
    Calls Try.prog 17 #[cmdV k A n c, cmdV k A' n c'] w fun e w' => e = .returned (.bool true) ∧ Below w.heap.size w w' := by
  obtain ⟨cl, ins, p1, p2, data, ex⟩ := k
  unfold cmdV
  simp only at h h' ⊢
  have S := fun w h h' => rsame_any A A' n c n c' data data w h h'
  rw [decide_eq_true (rfl : data = data)] at S
  have S := Lib.hid S
  go_enter Try.func17, Try.ntmps17
  go_wp2_with (go_at_call 16; go_must ((with_reducible refine (S.out _ ((h.alloc _).alloc _) ((h'.alloc _).alloc _)).mono ?_)); rintro e w1 ⟨rfl, m, rfl⟩)
  go_ret
  exact ⟨rfl, below_drewN (((Below.refl _ _).alloc (Nat.le_refl _) _).alloc (by simp) _) _⟩

def k1 : Cmd := ⟨0, 164, 4, 12, [7], -1⟩
theorem enc_k1 : encL k1 = [0, 164, 4, 12, 1, 7] ∧ encE k1 = 0 := by decide +kernel
theorem dec_b1 : decS [0, 176, 0, 0, 0] = (⟨0, 176, 0, 0, [], 256⟩, 0) := by
  have h : tailS [0] = some ([], 256) := by decide +kernel
  unfold decS
  rw [if_neg (by decide)]
  have e : List.drop 4 [(0 : UInt8), 176, 0, 0, 0] = [0] := rfl
  rw [e, h]
  rfl
set_option maxHeartbeats 1000000 in
theorem awake_any (w : World) : Calls Try.prog 13 #[] w fun e w' => e = .returned (.bool true) ∧ Below w.heap.size w w' := by
  have E1 : Hid (∀ w A, Rd w A 1 1 (bvs [7]) → Calls Try.prog 9 #[.agg #[.int .i64 0, .int .i64 164, .int .i64 4, .int .i64 12, .slice A 1 1, .int .i64 (-1)]] w (RetSE 5 6 (bvs [0, 164, 4, 12, 1, 7]) 0 w)) := by
    intro w A h
    have h1 := encode_any k1 A 1 1 w h (by omega)
    rw [enc_k1.1, enc_k1.2] at h1
    exact h1
  have D1 : Hid (∀ w A, Rd w A 5 5 (bvs [0, 176, 0, 0, 0]) → Calls Try.prog 11 #[.slice A 5 5] w fun e w' => ∃ A2 c2, e = .returned (.tuple #[.agg #[.int .i64 0, .int .i64 176, .int .i64 0, .int .i64 0, .slice A2 0 c2, .int .i64 256], .int .i64 0]) ∧ Ap w' w.heap.size 5 A2 0 c2 [] ∧ Below w.heap.size w w') := by
    intro w A h
    have h1 := decode_any A 5 5 _ w h
    rw [dec_b1] at h1
    exact h1
  go_enter Try.func13, Try.ntmps13
  go_wp2_with (first
    | (go_at_call 9; go_must ((with_reducible refine (E1.out _ _ (Rd.lit w 5 #[.int .u8 7] (by simp [maxLen]))).mono ?_)); rintro e w1 ⟨A1, c1, rfl, hap, hb1⟩; have hs1 := hb1.size)
    | (go_at_call 11; go_must ((with_reducible refine (D1.out _ _ (Rd.lit w1 5 #[.int .u8 0, .int .u8 176, .int .u8 0, .int .u8 0, .int .u8 0] (by simp [maxLen]))).mono ?_)); rintro e w2 ⟨A2, c2, rfl, hap2, hb2⟩))
  go_ret
  refine ⟨rfl, ?_⟩
  have hA : Below w.heap.size w w1 := Below.of_base ((Below.refl _ _).alloc (Nat.le_refl _) _) hb1 (by simp)
  have hB : Below w.heap.size w w2 := Below.of_base (hA.alloc hA.size _) hb2 (hA.alloc hA.size _).size
  exact hB.alloc hB.size _
end Go.Proofs.Yteodlgmcniikpaa
