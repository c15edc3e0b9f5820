import Derived.Test.YtbfnkddiphjdlaaRows
import Derived.Test.YtbfnkddiphjdlaaBase
namespace Go.Proofs.Ytbfnkddiphjdlaa
open Go.RowKit Go.TravelBase
set_option linter.unusedVariables false
set_option linter.unusedSimpArgs false

/-- The number that bytes stand for. -/
def numS (bs : List UInt8) : Nat := bs.foldl (fun n b => n * 256 + b.toNat) 0
theorem numS_snoc (bs : List UInt8) (b : UInt8) : numS (bs ++ [b]) = numS bs * 256 + b.toNat := by simp [numS]
theorem numS_lt (bs : List UInt8) : numS bs < 256 ^ bs.length := by
  rw [← List.reverse_reverse bs]
  generalize bs.reverse = l
  induction l with
  | nil => simp [numS]
  | cons x l ih =>
    rw [List.reverse_cons, numS_snoc, List.length_append, List.length_singleton, Nat.pow_succ]
    have := x.toNat_lt
    have h2 : numS l.reverse * 256 + 256 ≤ 256 ^ l.reverse.length * 256 := by
      have := Nat.mul_le_mul_right 256 (Nat.succ_le_of_lt ih)
      omega
    omega
def numV (bs : List UInt8) : Int := if 7 < bs.length then 0 else (numS bs : Int)
def numE (bs : List UInt8) : Int := if 7 < bs.length then 2 else 0

set_option maxHeartbeats 400000 in
theorem number_any (A : Option Addr) (n c : Nat) (bs : List UInt8) (w : World) (h : Rd w A n c (bvs bs)) :
    Calls Try.prog 8 #[.slice A n c] w fun e w' => e = .returned (.tuple #[.int .i64 (numV bs), .int .i64 (numE bs)]) ∧ w = w' := by
  have hn := h.len
  rw [length_bvs] at hn
  have hc := h.cap
  have hm := h.max
  by_cases h7 : 7 < n
  · have h7' : (7 : Int) < (n : Int) := by omega
    go_enter Try.func8, Try.ntmps8
    go_wp2
    go_ret2
    exact ⟨by simp [numV, numE, hn, h7], rfl⟩
  · have h7' : ¬ (7 : Int) < (n : Int) := by omega
    go_enter Try.func8, Try.ntmps8
    go_wp2
    go_loop [4, 12] (fun v i => ∃ k : Nat, k ≤ n ∧ i = .int .i64 k ∧ v = .int .i64 (numS (bs.take k))) (fun _ i => n - (intOf i).toNat)
    case atStart => exact ⟨0, Nat.zero_le _, rfl, rfl⟩
    case round =>
      obtain ⟨k, hk, rfl, rfl⟩ := hrel
      by_cases hlt : k < n
      · obtain ⟨b, off, rfl, hb, hcell⟩ := h.at_ (by omega)
        have hx := hcell k (bv bs[k]) (bvs_get (List.getElem?_eq_getElem (by omega)))
        unfold bv at hx
        have HS : Hid (numS (bs.take (k + 1)) = numS (bs.take k) * 256 + bs[k].toNat) := by
          rw [List.take_succ_eq_append_getElem (by omega), numS_snoc]; rfl
        have hl := numS_lt (bs.take k)
        have hl2 : numS (bs.take k) < 281474976710656 := by
          refine Nat.lt_of_lt_of_le hl ?_
          rw [List.length_take, Nat.min_eq_left (by omega)]
          exact (Nat.pow_le_pow_right (by omega) (show k ≤ 6 by omega) : 256 ^ k ≤ 256 ^ 6)
        have hb2 := (bs[k]).toNat_lt
        clear hl hcell h
        go_wp2
        go_round
        case rel => exact ⟨k + 1, by omega, by go_num, by rw [HS.out, or_byte _ _ hl2 hb2]⟩
        case measure => simp [intOf]; omega
      · go_wp2
        go_ret2
        obtain rfl : k = n := by omega
        exact ⟨by simp [numV, numE, hn, h7, List.take_of_length_le (Nat.le_of_eq hn)], rfl⟩
end Go.Proofs.Ytbfnkddiphjdlaa
