import Derived.Test.YteodlgmcniikpaaCmdE
namespace Go.Proofs.Yteodlgmcniikpaa
open Go.RowKit Go.TravelBase
set_option linter.unusedVariables false
set_option linter.unusedSimpArgs false

/-! ### The numbers of a command that is read -/
def orS (x z : Nat) : Nat := if x = 0 then z else x
def expS (r : List UInt8) : Nat := orS (numS r) (p256 r.length)

theorem or_any (x z : Nat) (w : World) : Calls Try.prog 37 #[.int .i64 (x : Int), .int .i64 (z : Int)] w fun e w' => e = .returned (.int .i64 (orS x z : Nat)) ∧ w = w' := by
  by_cases hx : x = 0
  · subst hx
    have e : orS 0 z = z := rfl
    rw [e]
    clear e
    go_enter Try.func37, Try.ntmps37
    go_wp2_with (fail)
    go_ret
    exact ⟨rfl, rfl⟩
  · have e : orS x z = x := if_neg hx
    rw [e]
    have b : ((x : Int) == 0) = false := by simp [hx]
    clear e
    go_enter Try.func37, Try.ntmps37
    go_wp2_with (fail)
    go_ret
    exact ⟨rfl, rfl⟩

theorem numV_small {bs : List UInt8} (h : bs.length ≤ 2) : numV bs = (numS bs : Int) ∧ numE bs = 0 := by
  constructor
  · unfold numV; rw [if_neg (by omega)]
  · unfold numE; rw [if_neg (by omega)]

theorem expected_any (s : Nat) (hs : s = 1 ∨ s = 2) (A : Option Addr) (c : Nat) (bs : List UInt8) (w : World) (h : Rd w A s c (bvs bs)) :
    Calls Try.prog 51 #[.slice A s c] w fun e w' => e = .returned (.int .i64 (expS bs : Nat)) ∧ w = w' := by
  have hn := h.len
  rw [length_bvs] at hn
  have hN := number_any A s c bs w h
  obtain ⟨e1, e2⟩ := numV_small (bs := bs) (by omega)
  rw [e1, e2] at hN
  have HN := Lib.hid hN
  clear hN e1 e2
  have p1 : p256 1 = 256 := by decide +kernel
  have p2 : p256 2 = 65536 := by decide +kernel
  have hX : Hid (expS bs = orS (numS bs) (p256 s)) := by rw [← hn]; rfl
  generalize numS bs = x at HN hX
  by_cases hx : x = 0
  · subst hx
    rcases hs with rfl | rfl
    all_goals
      have e : expS bs = p256 _ := hX.out
      rw [e]
      first | rw [p1] | rw [p2]
      clear e
      go_enter Try.func51, Try.ntmps51
      go_wp2_with (go_at_call 43; go_must (refine HN.out.mono ?_); rintro e w1 ⟨rfl, rfl⟩)
      go_ret
      exact ⟨rfl, rfl⟩
  · have e : expS bs = x := by rw [hX.out]; exact if_neg hx
    rw [e]
    have b : ((x : Int) == 0) = false := by simp [hx]
    clear e hX
    go_enter Try.func51, Try.ntmps51
    go_wp2_with (go_at_call 43; go_must (refine HN.out.mono ?_); rintro e w1 ⟨rfl, rfl⟩)
    go_ret
    exact ⟨rfl, rfl⟩
end Go.Proofs.Yteodlgmcniikpaa
