import Derived.Test.YtbfnkddiphjdlaaOctD
namespace Go.Proofs.Ytbfnkddiphjdlaa
open Go.RowKit Go.TravelBase
set_option linter.unusedVariables false
set_option linter.unusedSimpArgs false

/-! ### Pieces of bytes -/
theorem info_bytes : (Try.prog.info? 22).map (fun i => (i.zero, i.size, i.bytes)) = some (some (.slice none 0 0), 1, 24) := by kernel_rfl
def pieceS (bs : List UInt8) (s j : Nat) : List UInt8 := (bs.drop (j * s)).take s
def piecesS (bs : List UInt8) (s k : Nat) : List (List UInt8) := (List.range k).map (pieceS bs s)
theorem piecesS_snoc (bs : List UInt8) (s k : Nat) : piecesS bs s (k + 1) = piecesS bs s k ++ [pieceS bs s k] := by simp [piecesS, List.range_succ]
theorem length_piecesS (bs : List UInt8) (s k : Nat) : (piecesS bs s k).length = k := by simp [piecesS]
/-- How many pieces. -/
def countS (n s : Nat) : Nat := (n + s - 1) / s
theorem countS_of {n s k : Nat} (hs : 1 ≤ s) (h1 : n ≤ k * s) (h2 : k = 0 ∨ (k - 1) * s < n) : k = countS n s := by
  unfold countS
  rcases h2 with rfl | h2
  · have : n = 0 := by omega
    subst this
    exact (Nat.div_eq_of_lt (by omega)).symm
  · rcases k with _ | k
    · omega
    · simp only [Nat.add_sub_cancel] at h2
      rw [Nat.add_mul, Nat.one_mul] at h1
      refine (Nat.div_eq_of_lt_le ?_ ?_).symm
      · rw [Nat.add_mul, Nat.one_mul]; omega
      · rw [Nat.add_mul (k + 1), Nat.one_mul, Nat.add_mul, Nat.one_mul]; omega
def splitL (bs : List UInt8) (size : Int) : List (List UInt8) := if size < 1 then [] else piecesS bs size.toNat (countS bs.length size.toNat)
def splitE (size : Int) : Int := if size < 1 then 3 else 0
/-- What Split hands back: pieces, each in memory of its own. -/
def RetSplit (l : List (List UInt8)) (err : Int) (w : World) (e : Ending) (w' : World) : Prop :=
  ∃ A c vs, e = .returned (.tuple #[.slice A l.length c, .int .i64 err]) ∧ Ap w' w.heap.size 22 A l.length c vs ∧ All2 (Slv 5 w' w.heap.size) vs l ∧ Below w.heap.size w w'

theorem piece_key {bs : List UInt8} {n s k m q : Nat} (hn : bs.length = n) (hs : 1 ≤ s) (hm : n - k * s = m) (h0 : 0 < m) (hq : q = m ∧ m ≤ s ∨ q = s ∧ s ≤ m) :
    (bs.drop (k * s)).take q = pieceS bs s k ∧ q ≤ m ∧ 0 < q ∧ m - q = n - (k + 1) * s ∧ (bs.drop (k * s)).drop q = bs.drop ((k + 1) * s) ∧ (pieceS bs s k).length = q ∧ k < n := by
  have e : (k + 1) * s = k * s + s := by rw [Nat.add_mul, Nat.one_mul]
  have hk : k ≤ k * s := Nat.le_mul_of_pos_right k hs
  have hl : (bs.drop (k * s)).length = m := by rw [List.length_drop]; omega
  have hp : (bs.drop (k * s)).take q = pieceS bs s k := by
    unfold pieceS
    rcases hq with ⟨rfl, h⟩ | ⟨rfl, h⟩
    · rw [List.take_of_length_le (by omega), List.take_of_length_le (by omega)]
    · rfl
  have hd : (bs.drop (k * s)).drop q = bs.drop ((k + 1) * s) := by
    rw [List.drop_drop]
    rcases hq with ⟨rfl, h⟩ | ⟨rfl, h⟩
    · rw [List.drop_of_length_le (by omega), List.drop_of_length_le (by omega)]
    · rw [e]
  refine ⟨hp, by omega, by omega, by omega, hd, ?_, by omega⟩
  rw [← hp, List.length_take]
  omega

set_option maxHeartbeats 400000 in
theorem split_any (A : Option Addr) (n c : Nat) (size : Int) (bs : List UInt8) (w : World) (h : Rd w A n c (bvs bs)) (hr : n ≤ 1048576) (hs : -9223372036854775808 ≤ size ∧ size ≤ 9223372036854775807) :
    Calls Try.prog 17 #[.slice A n c, .int .i64 size] w (RetSplit (splitL bs size) (splitE size) w) := by
  have hn := h.len
  rw [length_bvs] at hn
  by_cases h1 : size < 1
  · have e1 : splitE size = 3 := by simp [splitE, h1]
    have e2 : splitL bs size = [] := by simp [splitL, h1]
    rw [e1, e2]
    clear e1 e2 h
    go_enter Try.func17, Try.ntmps17
    go_wp2
    go_ret2
    exact ⟨none, 0, [], rfl, Ap.nil_ _ _ _, All2.nil_ _, Below.refl _ _⟩
  · obtain ⟨s, rfl⟩ := Int.eq_ofNat_of_zero_le (show 0 ≤ size by omega)
    have e1 : splitE s = 0 := by simp [splitE, h1]
    have HE2 : Hid (splitL bs s = piecesS bs s (countS n s)) := by
      show splitL bs s = _
      simp only [splitL, Int.toNat_natCast]
      rw [if_neg h1, hn]
    rw [e1]
    clear e1
    obtain ⟨i0, hi, hz0, hz1, hz2⟩ := info_parts info_bytes
    go_enter Try.func17, Try.ntmps17
    go_wp2_with (fail)
    go_loopw [0, 6] (fun b out wr => ∃ (k : Nat) (A' : Option Addr) (c' : Nat) (Ao : Option Addr) (co : Nat) (vs : List Value), b = .slice A' (n - k * s) c' ∧ out = .slice Ao k co ∧
        Rd w A' (n - k * s) c' (bvs (bs.drop (k * s))) ∧ Ap wr w.heap.size 22 Ao k co vs ∧ All2 (Slv 5 wr w.heap.size) vs (piecesS bs s k) ∧ Below w.heap.size w wr ∧ (k = 0 ∨ (k - 1) * s < n))
      (fun b _ _ => match b with | .slice _ m _ => m | _ => 0)
    case atStart => exact ⟨0, A, c, none, 0, [], by simp, rfl, by simpa using h, Ap.nil_ _ _ _, All2.nil_ _, Below.refl _ _, .inl rfl⟩
    case round =>
      clear h
      obtain ⟨k, A', c', Ao, co, vs, rfl, rfl, hrd, hap, hvs, hb, hks⟩ := hrel
      have hcm0 := hrd.max
      have hc0 := hrd.cap
      by_cases hlt : 0 < n - k * s
      · generalize hm : n - k * s = m at *
        have hc := hrd.cap
        have hcm := hrd.max
        have hmn : m ≤ 1048576 := by omega
        have hmk : k * s + m = n := by omega
        by_cases hms : m < s
        all_goals
          have KEY := Lib.hid (piece_key (q := if m < s then m else s) hn (by omega) hm hlt (by first | rw [if_pos hms]; exact .inl ⟨rfl, by omega⟩ | rw [if_neg hms]; exact .inr ⟨rfl, by omega⟩))
          first | rw [if_pos hms] at KEY | rw [if_neg hms] at KEY
          have hkn := KEY.out.2.2.2.2.2.2
          have hrt := hrd.takeB KEY.out.2.1
          have HPS := Lib.hid (hrd.dropB KEY.out.2.1)
          rw [KEY.out.1] at hrt
          replace hrt := hrt.below hb
          clear hm hrd
          go_wp2_with (first
            | (go_at_call 25; go_must (refine (bclone_any _ _ _ _ _ hrt (by omega)).mono ?_); rintro e w1 ⟨A1, c1, rfl, hap1, hb1⟩; have hsz1 := hb1.size; have hbs := hb.size)
            | (at_builtin; refine wpList_append_ap _ rfl _ _ 32 rfl w.heap.size 22 i0 _ 24 Try.underlying32 hi hz0 hz1 hz2 rfl Ao k co vs rfl ((hap.below hb1).alloc _) (some ⟨w1.heap.size, 0, none⟩) 1 1 _ rfl (Rd.lit _ _ #[_] (by simp [maxLen])) (one_slice _ _ _) (by omega) (by unfold maxLen; omega) (by simp; omega) ?_; intro A2 c2 w2 hap2 hk2 hb2 hne2))
          go_roundw
          case rel =>
            refine ⟨k + 1, _, _, A2, c2, _, sl_eq (by have := KEY.out.2.2.2.1; omega), rfl, ?_, hap2, ?_, ?_, .inr ?_⟩
            · have h1 := HPS.out
              rw [KEY.out.2.2.2.1, KEY.out.2.2.2.2.1] at h1
              exact h1
            · rw [piecesS_snoc]
              exact pieces_step hvs hb1 (Slv.mk KEY.out.2.2.2.2.2.1 (hap1.base hb.size)) hk2 (by decide)
            · exact ((Below.of_base hb hb1 hb.size).alloc (by omega) _).trans hb2
            · rw [Nat.add_sub_cancel]; have := KEY.out.2.2.2.1; have := KEY.out.2.2.1; omega
          case measure => simp; omega
      · have hk : k = countS n s := countS_of (by omega) (by omega) hks
        have hm0 : n - k * s = 0 := by omega
        rw [hm0]
        clear hm0 hrd
        go_wp2_with (fail)
        go_ret2
        rw [HE2.out, ← hk]
        refine ⟨Ao, co, vs, ?_, ?_, hvs, hb⟩
        · rw [length_piecesS]; rfl
        · rw [length_piecesS]; exact hap
end Go.Proofs.Ytbfnkddiphjdlaa
