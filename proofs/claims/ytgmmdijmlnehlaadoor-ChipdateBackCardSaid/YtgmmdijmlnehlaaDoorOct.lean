import Derived.Test.YtgmmdijmlnehlaaDoorRows
import Derived.Test.YtgmmdijmlnehlaaDoorBase
namespace Go.Proofs.YtgmmdijmlnehlaaDoor
open Go.RowKit Go.TravelBase
set_option linter.unusedVariables false
set_option linter.unusedSimpArgs false

/-- The number that bytes stand for. -/
def numS (bs : List UInt8) : Nat := bs.foldl (fun n b => n * 256 + b.toNat) 0
theorem numS_snoc (bs : List UInt8) (b : UInt8) : numS (bs ++ [b]) = numS bs * 256 + b.toNat := by simp [numS]
theorem numS_lt (bs : List UInt8) : numS bs < 256 ^ bs.length := by
  rw [← List.reverse_reverse bs]
  generalize bs.reverse = l
  induction l with
  | nil => simp [numS]
  | cons x l ih =>
    rw [List.reverse_cons, numS_snoc, List.length_append, List.length_singleton, Nat.pow_succ]
    have := x.toNat_lt
    have h2 : numS l.reverse * 256 + 256 ≤ 256 ^ l.reverse.length * 256 := by
      have := Nat.mul_le_mul_right 256 (Nat.succ_le_of_lt ih)
      omega
    omega
def numV (bs : List UInt8) : Int := if 7 < bs.length then 0 else (numS bs : Int)
def numE (bs : List UInt8) : Int := if 7 < bs.length then 2 else 0

set_option maxHeartbeats 400000 in
theorem number_any (A : Option Addr) (n c : Nat) (bs : List UInt8) (w : World) (h : Rd w A n c (bvs bs)) :
    Calls Tryd.prog 58 #[.slice A n c] w fun e w' => e = .returned (.tuple #[.int .i64 (numV bs), .int .i64 (numE bs)]) ∧ w = w' := by
  have hn := h.len
  rw [length_bvs] at hn
  have hc := h.cap
  have hm := h.max
  by_cases h7 : 7 < n
  · have h7' : (7 : Int) < (n : Int) := by omega
    go_enter Tryd.func58, Tryd.ntmps58
    go_wp2
    go_ret2
    exact ⟨by simp [numV, numE, hn, h7], rfl⟩
  · have h7' : ¬ (7 : Int) < (n : Int) := by omega
    go_enter Tryd.func58, Tryd.ntmps58
    go_wp2
    go_loop [4, 12] (fun v i => ∃ k : Nat, k ≤ n ∧ i = .int .i64 k ∧ v = .int .i64 (numS (bs.take k))) (fun _ i => n - (intOf i).toNat)
    case atStart => exact ⟨0, Nat.zero_le _, rfl, rfl⟩
    case round =>
      obtain ⟨k, hk, rfl, rfl⟩ := hrel
      by_cases hlt : k < n
      · obtain ⟨b, off, rfl, hb, hcell⟩ := h.at_ (by omega)
        have hx := hcell k (bv bs[k]) (bvs_get (List.getElem?_eq_getElem (by omega)))
        unfold bv at hx
        have HS : Hid (numS (bs.take (k + 1)) = numS (bs.take k) * 256 + bs[k].toNat) := by
          rw [List.take_succ_eq_append_getElem (by omega), numS_snoc]; rfl
        have hl := numS_lt (bs.take k)
        have hl2 : numS (bs.take k) < 281474976710656 := by
          refine Nat.lt_of_lt_of_le hl ?_
          rw [List.length_take, Nat.min_eq_left (by omega)]
          exact (Nat.pow_le_pow_right (by omega) (show k ≤ 6 by omega) : 256 ^ k ≤ 256 ^ 6)
        have hb2 := (bs[k]).toNat_lt
        clear hl hcell h
        go_wp2
        go_round
        case rel => exact ⟨k + 1, by omega, by go_num, by rw [HS.out, or_byte _ _ hl2 hb2]⟩
        case measure => simp [intOf]; omega
      · go_wp2
        go_ret2
        obtain rfl : k = n := by omega
        exact ⟨by simp [numV, numE, hn, h7, List.take_of_length_le (Nat.le_of_eq hn)], rfl⟩

theorem info_u8 : (Tryd.prog.info? 5).map (fun i => (i.zero, i.size, i.bytes)) = some (some (.int .u8 0), 1, 1) := by kernel_rfl

/-! ### Octets: a number as bytes -/
def octE (n size : Int) : Int := if size < 0 ∨ 7 < size then 2 else if n < 0 ∨ (p256 size.toNat : Int) ≤ n then 3 else 0
def octL (n size : Int) : List UInt8 := if octE n size = 0 then beS n.toNat size.toNat else []

set_option maxHeartbeats 400000 in
theorem octets_any (n size : Int) (w : World) (hn : -9223372036854775808 ≤ n ∧ n ≤ 9223372036854775807) (hs : -9223372036854775808 ≤ size ∧ size ≤ 9223372036854775807) :
    Calls Tryd.prog 56 #[.int .i64 n, .int .i64 size] w (RetSE 5 (octL n size).length (bvs (octL n size)) (octE n size) w) := by
  by_cases h1 : size < 0 ∨ 7 < size
  · have e1 : octE n size = 2 := by simp [octE, h1]
    have e2 : octL n size = [] := by simp [octL, e1]
    rw [e1, e2]
    clear e1 e2
    rcases h1 with h1 | h1
    · go_enter Tryd.func56, Tryd.ntmps56
      go_wp2
      go_ret2
      exact RetSE.nil_ _ _ _
    · have h0 : ¬ size < 0 := by omega
      go_enter Tryd.func56, Tryd.ntmps56
      go_wp2
      go_ret2
      exact RetSE.nil_ _ _ _
  · have h2 : ¬ size < 0 := by omega
    have h3 : ¬ 7 < size := by omega
    obtain ⟨s, rfl⟩ := Int.eq_ofNat_of_zero_le (show 0 ≤ size by omega)
    by_cases h4 : n < 0
    · have e1 : octE n s = 3 := by simp only [octE]; rw [if_neg (by omega), if_pos (by omega)]
      have e2 : octL n s = [] := by simp [octL, e1]
      rw [e1, e2]
      clear e1 e2
      go_enter Tryd.func56, Tryd.ntmps56
      go_wp2
      go_ret2
      exact RetSE.nil_ _ _ _
    · obtain ⟨n, rfl⟩ := Int.eq_ofNat_of_zero_le (show 0 ≤ n by omega)
      by_cases h5 : n < p256 s
      · have e1 : octE n s = 0 := by simp only [octE]; rw [if_neg (by omega), if_neg (by simp only [Int.toNat_natCast]; omega)]
        have e2 : octL n s = beS n s := by simp [octL, e1]
        rw [e1, e2, length_beS]
        clear e1 e2
        have g := shr_zero n s (by omega) (by omega)
        obtain ⟨i0, hi, hz0, hz1, hz2⟩ := info_parts info_u8
        go_enter Tryd.func56, Tryd.ntmps56
        go_wp2_with (at_make; refine wpList_make_full _ rfl _ _ 29 rfl w.heap.size 5 i0 _ 1 Tryd.underlying29 hi hz0 hz1 _ _ _ _ s rfl rfl rfl rfl (by rw [hz2]; omega) (by unfold maxLen; omega) (Nat.le_refl _) ?_; intro w1 hown hgrow)
        rw [made_bytes] at hown
        have hb1 := (Below.refl w.heap.size w).grown hgrow (Nat.le_refl _) (fun k hk => by cases hk)
        clear g hgrow
        go_loopw [26] (fun i wr => ∃ k : Nat, k ≤ s ∧ i = .int .i64 k ∧ wr.ownsRow w.heap.size 5 1 (.slice (some ⟨w.heap.size, 0, none⟩) s s) s (List.replicate (s - k) (.int .u8 0) ++ bvs (beS n k)) ∧ Below w.heap.size w wr)
          (fun i _ => s - (intOf i).toNat)
        case atStart => exact ⟨0, Nat.zero_le _, rfl, by simpa [beS, bvs] using hown, hb1⟩
        case round =>
          clear hown hb1
          obtain ⟨k, hk, rfl, hown, hb⟩ := hrel
          by_cases hlt : k < s
          · obtain ⟨⟨u, hu⟩, hf, hlw⟩ := own_cell hown (j := s - 1 - k) (by omega)
            go_wp2
            go_roundw
            case rel => exact ⟨k + 1, by omega, by go_num, be_step hlt hown (by rw [be_shr]), hb.setCell (Nat.le_refl _) _⟩
            case measure => simp [intOf]; omega
          · obtain rfl : k = s := by omega
            go_wp2
            go_ret2
            exact RetSE.own (by simpa using hown) hb
      · have e1 : octE n s = 3 := by simp only [octE]; rw [if_neg (by omega), if_pos (by simp only [Int.toNat_natCast]; omega)]
        have e2 : octL n s = [] := by simp [octL, e1]
        rw [e1, e2]
        clear e1 e2
        have g := shr_pos n s (by omega)
        go_enter Tryd.func56, Tryd.ntmps56
        go_wp2
        go_ret2
        exact RetSE.nil_ _ _ _

set_option maxHeartbeats 400000 in
theorem rnumber_any (A : Option Addr) (n c : Nat) (bs : List UInt8) (w : World) (h : Rd w A n c (bvs bs)) :
    Calls Tryd.prog 78 #[.slice A n c] w fun e w' => e = .returned (.tuple #[.int .i64 (numV bs), .int .i64 (numE bs)]) ∧ w = w' := by
  have hn := h.len
  rw [length_bvs] at hn
  have hc := h.cap
  have hm := h.max
  by_cases h7 : 7 < n
  · have h7' : (7 : Int) < (n : Int) := by omega
    go_enter Tryd.func78, Tryd.ntmps78
    go_wp2
    go_ret2
    exact ⟨by simp [numV, numE, hn, h7], rfl⟩
  · have h7' : ¬ (7 : Int) < (n : Int) := by omega
    go_enter Tryd.func78, Tryd.ntmps78
    go_wp2
    go_loop [4, 5] (fun v i => ∃ k : Nat, k ≤ n ∧ i = .int .i64 k ∧ v = .int .i64 (numS (bs.take k))) (fun _ i => n - (intOf i).toNat)
    case atStart => exact ⟨0, Nat.zero_le _, rfl, rfl⟩
    case round =>
      obtain ⟨k, hk, rfl, rfl⟩ := hrel
      by_cases hlt : k < n
      · obtain ⟨b, off, rfl, hb, hcell⟩ := h.at_ (by omega)
        have hx := hcell k (bv bs[k]) (bvs_get (List.getElem?_eq_getElem (by omega)))
        unfold bv at hx
        have HS : Hid (numS (bs.take (k + 1)) = numS (bs.take k) * 256 + bs[k].toNat) := by
          rw [List.take_succ_eq_append_getElem (by omega), numS_snoc]; rfl
        have hl := numS_lt (bs.take k)
        have hl2 : numS (bs.take k) < 281474976710656 := by
          refine Nat.lt_of_lt_of_le hl ?_
          rw [List.length_take, Nat.min_eq_left (by omega)]
          exact (Nat.pow_le_pow_right (by omega) (show k ≤ 6 by omega) : 256 ^ k ≤ 256 ^ 6)
        have hb2 := (bs[k]).toNat_lt
        clear hl hcell h
        go_wp2
        go_round
        case rel => exact ⟨k + 1, by omega, by go_num, by rw [HS.out]; go_num⟩
        case measure => simp [intOf]; omega
      · go_wp2
        go_ret2
        obtain rfl : k = n := by omega
        exact ⟨by simp [numV, numE, hn, h7, List.take_of_length_le (Nat.le_of_eq hn)], rfl⟩

theorem div_p256 (n k : Nat) : n / p256 k / 256 = n / p256 (k + 1) := by rw [Nat.div_div_eq_div_mul, p256_succ]

set_option maxHeartbeats 400000 in
theorem bequal_any (A A' : Option Addr) (n c m c' : Nat) (xs ys : List UInt8) (w : World) (h : Rd w A n c (bvs xs)) (h' : Rd w A' m c' (bvs ys)) :
    Calls Tryd.prog 59 #[.slice A n c, .slice A' m c'] w fun e w' => e = .returned (.bool (decide (xs = ys))) ∧ w = w' := by
  have k1 := conv_bytes (P := Tryd.prog) w 29 9 5 Tryd.underlying29 Tryd.underlying5 Tryd.underlying9 h
  have k2 := conv_bytes (P := Tryd.prog) w 29 9 5 Tryd.underlying29 Tryd.underlying5 Tryd.underlying9 h'
  clear h h'
  go_enter Tryd.func59, Tryd.ntmps59
  go_wp2
  go_ret
  exact ⟨by rw [strB_toList, strB_toList]; by_cases he : xs = ys <;> simp [he], rfl⟩

theorem same_any (A A' : Option Addr) (n c m c' : Nat) (xs ys : List UInt8) (w : World) (h : Rd w A n c (bvs xs)) (h' : Rd w A' m c' (bvs ys)) :
    Calls Tryd.prog 38 #[.slice A n c, .slice A' m c'] w fun e w' => e = .returned (.bool (decide (xs = ys))) ∧ w = w' := by
  go_enter Tryd.func38, Tryd.ntmps38
  go_wp2_with (go_at_call 59; refine (bequal_any _ _ _ _ _ _ xs ys _ h h').mono ?_; rintro e w' ⟨rfl, rfl⟩)
  go_ret
  exact ⟨rfl, rfl⟩

def xorR (a b : List UInt8) : List UInt8 := if a.length = b.length then xorL a b else []

/-! ### Pieces of bytes -/
theorem info_bytes : (Tryd.prog.info? 29).map (fun i => (i.zero, i.size, i.bytes)) = some (some (.slice none 0 0), 1, 24) := by kernel_rfl
def pieceS (bs : List UInt8) (s j : Nat) : List UInt8 := (bs.drop (j * s)).take s
def piecesS (bs : List UInt8) (s k : Nat) : List (List UInt8) := (List.range k).map (pieceS bs s)
theorem piecesS_snoc (bs : List UInt8) (s k : Nat) : piecesS bs s (k + 1) = piecesS bs s k ++ [pieceS bs s k] := by simp [piecesS, List.range_succ]
theorem length_piecesS (bs : List UInt8) (s k : Nat) : (piecesS bs s k).length = k := by simp [piecesS]
/-- How many pieces. -/
def countS (n s : Nat) : Nat := (n + s - 1) / s
theorem countS_of {n s k : Nat} (hs : 1 ≤ s) (h1 : n ≤ k * s) (h2 : k = 0 ∨ (k - 1) * s < n) : k = countS n s := by
  unfold countS
  rcases h2 with rfl | h2
  · have : n = 0 := by omega
    subst this
    exact (Nat.div_eq_of_lt (by omega)).symm
  · rcases k with _ | k
    · omega
    · simp only [Nat.add_sub_cancel] at h2
      rw [Nat.add_mul, Nat.one_mul] at h1
      refine (Nat.div_eq_of_lt_le ?_ ?_).symm
      · rw [Nat.add_mul, Nat.one_mul]; omega
      · rw [Nat.add_mul (k + 1), Nat.one_mul, Nat.add_mul, Nat.one_mul]; omega
def splitL (bs : List UInt8) (size : Int) : List (List UInt8) := if size < 1 then [] else piecesS bs size.toNat (countS bs.length size.toNat)
def splitE (size : Int) : Int := if size < 1 then 3 else 0
/-- What Split hands back: pieces, each in memory of its own. -/
def RetSplit (l : List (List UInt8)) (err : Int) (w : World) (e : Ending) (w' : World) : Prop :=
  ∃ A c vs, e = .returned (.tuple #[.slice A l.length c, .int .i64 err]) ∧ Ap w' w.heap.size 29 A l.length c vs ∧ All2 (Slv 5 w' w.heap.size) vs l ∧ Below w.heap.size w w'

theorem piece_key {bs : List UInt8} {n s k m q : Nat} (hn : bs.length = n) (hs : 1 ≤ s) (hm : n - k * s = m) (h0 : 0 < m) (hq : q = m ∧ m ≤ s ∨ q = s ∧ s ≤ m) :
    (bs.drop (k * s)).take q = pieceS bs s k ∧ q ≤ m ∧ 0 < q ∧ m - q = n - (k + 1) * s ∧ (bs.drop (k * s)).drop q = bs.drop ((k + 1) * s) ∧ (pieceS bs s k).length = q ∧ k < n := by
  have e : (k + 1) * s = k * s + s := by rw [Nat.add_mul, Nat.one_mul]
  have hk : k ≤ k * s := Nat.le_mul_of_pos_right k hs
  have hl : (bs.drop (k * s)).length = m := by rw [List.length_drop]; omega
  have hp : (bs.drop (k * s)).take q = pieceS bs s k := by
    unfold pieceS
    rcases hq with ⟨rfl, h⟩ | ⟨rfl, h⟩
    · rw [List.take_of_length_le (by omega), List.take_of_length_le (by omega)]
    · rfl
  have hd : (bs.drop (k * s)).drop q = bs.drop ((k + 1) * s) := by
    rw [List.drop_drop]
    rcases hq with ⟨rfl, h⟩ | ⟨rfl, h⟩
    · rw [List.drop_of_length_le (by omega), List.drop_of_length_le (by omega)]
    · rw [e]
  refine ⟨hp, by omega, by omega, by omega, hd, ?_, by omega⟩
  rw [← hp, List.length_take]
  omega

/-! ### What leads back -/
theorem atS_append_left (a b : List UInt8) (j : Nat) (h : j < a.length) : atS (a ++ b) j = atS a j := by
  unfold atS; rw [List.getElem?_append_left h]
theorem hexS_at (bs : List UInt8) : ∀ k, (h : k < bs.length) → atS (hexS bs) (2 * k) = (hexd (bs[k].toNat / 16)).toNat ∧ atS (hexS bs) (2 * k + 1) = (hexd (bs[k].toNat % 16)).toNat := by
  induction bs with
  | nil => intro k h; simp at h
  | cons b bs ih =>
    intro k h
    have e : hexS (b :: bs) = hexd (b.toNat / 16) :: hexd (b.toNat % 16) :: hexS bs := by simp [hexS]
    cases k with
    | zero => rw [e]; exact ⟨rfl, rfl⟩
    | succ k =>
      have h1 := ih k (by simpa using h)
      have e1 : 2 * (k + 1) = 2 * k + 2 := by omega
      rw [e, e1]
      exact h1
theorem hex_pair (bs : List UInt8) (k : Nat) (h : k < bs.length) : pairOk (hexS bs) k = true ∧ pairV (hexS bs) k = bs[k] := by
  obtain ⟨h1, h2⟩ := hexS_at bs k h
  have hb := (bs[k]).toNat_lt
  have d1 := digS_hexd (bs[k].toNat / 16) (by omega)
  have d2 := digS_hexd (bs[k].toNat % 16) (by omega)
  unfold pairOk pairV
  rw [h1, h2, d1, d2]
  refine ⟨decide_eq_true ⟨Int.natCast_nonneg _, Int.natCast_nonneg _⟩, ?_⟩
  simp only [Int.toNat_natCast]
  have : 16 * (bs[k].toNat / 16) + bs[k].toNat % 16 = bs[k].toNat := by omega
  rw [this]
  simp
theorem unhex_hex (bs : List UInt8) : unhexL (hexS bs) = bs ∧ unhexE (hexS bs) = 0 := by
  have hl := length_hexS bs
  obtain ⟨h1, h2⟩ := unhex_good (s := hexS bs) (by omega) (fun k hk => (hex_pair bs k (by omega)).1)
  refine ⟨?_, h2⟩
  rw [h1]
  have e : (hexS bs).length / 2 = bs.length := by omega
  rw [e]
  apply List.ext_getElem
  · rw [length_pairsS]
  · intro i h3 h4
    simp only [pairsS, List.getElem_map, List.getElem_range]
    exact (hex_pair bs i h4).2
theorem be_num (bs : List UInt8) : ∀ l : List UInt8, beS (numS (l ++ bs)) bs.length = bs := by
  induction bs with
  | nil => intro l; rfl
  | cons b bs ih =>
    intro l
    have h1 := ih (l ++ [b])
    have e : l ++ [b] ++ bs = l ++ b :: bs := by simp
    rw [e] at h1
    show UInt8.ofNat (numS (l ++ b :: bs) / p256 bs.length) :: beS (numS (l ++ b :: bs)) bs.length = b :: bs
    rw [h1]
    congr 1
    have h2 : ∀ (x : Nat) (m : List UInt8), m.foldl (fun n b => n * 256 + b.toNat) x = x * p256 m.length + numS m := by
      intro x m
      induction m generalizing x with
      | nil => simp [numS, p256]
      | cons y m ihm =>
        have hy := ihm (x * 256 + y.toNat)
        have h0 := ihm (0 * 256 + y.toNat)
        have e0 : numS (y :: m) = m.foldl (fun n b => n * 256 + b.toNat) (0 * 256 + y.toNat) := rfl
        rw [List.foldl_cons, hy, e0, h0, List.length_cons, p256_succ]
        simp only [Nat.add_mul, Nat.zero_mul, Nat.zero_add]
        rw [Nat.mul_assoc x 256, Nat.mul_comm 256 (p256 m.length)]
        omega
    have h3 : numS (l ++ b :: bs) = (numS l * 256 + b.toNat) * p256 bs.length + numS bs := by
      rw [← e]
      unfold numS
      rw [List.foldl_append, h2, List.foldl_append]
      rfl
    have h4 : numS bs < p256 bs.length := numS_lt bs
    rw [h3, Nat.mul_comm, Nat.mul_add_div (p256_pos _), Nat.div_eq_of_lt h4, Nat.add_zero]
    apply UInt8.toNat_inj.1
    rw [UInt8.toNat_ofNat']
    have := b.toNat_lt
    omega
theorem oct_num (bs : List UInt8) (h : bs.length ≤ 7) : octE (numV bs) bs.length = 0 ∧ octL (numV bs) bs.length = bs ∧ numE bs = 0 ∧ 0 ≤ numV bs ∧ numV bs ≤ 72057594037927936 := by
  have h1 : numS bs < p256 bs.length := numS_lt bs
  have h2 : p256 bs.length ≤ p256 7 := p256_le h
  rw [p256_7] at h2
  have e1 : numV bs = (numS bs : Int) := by unfold numV; rw [if_neg (by omega)]
  have e2 : octE (numV bs) bs.length = 0 := by
    rw [e1]
    unfold octE
    rw [if_neg (by omega), if_neg (by simp only [Int.toNat_natCast]; omega)]
  refine ⟨e2, ?_, ?_, by omega, by omega⟩
  · unfold octL
    rw [if_pos e2, e1, Int.toNat_natCast, Int.toNat_natCast]
    exact be_num bs []
  · unfold numE; rw [if_neg (by omega)]
theorem xor_xor (a b : List UInt8) (h : a.length = b.length) : xorL (xorL a b) b = a := by
  apply List.ext_getElem
  · simp [xorL, h]
  · intro i h1 h2
    simp [xorL, UInt8.xor_assoc]

theorem flat_pieces (bs : List UInt8) (s : Nat) : ∀ k, (piecesS bs s k).flatten = bs.take (k * s) := by
  intro k
  induction k with
  | zero => simp [piecesS]
  | succ k ih =>
    rw [piecesS_snoc, List.flatten_append, ih, Nat.add_mul, Nat.one_mul, List.take_add]
    simp [pieceS]
theorem flat_split (bs : List UInt8) (size : Int) (h : ¬ size < 1) : (splitL bs size).flatten = bs := by
  unfold splitL
  rw [if_neg h, flat_pieces]
  refine List.take_of_length_le ?_
  unfold countS
  obtain ⟨s, hs⟩ : ∃ s, size.toNat = s := ⟨_, rfl⟩
  rw [hs]
  have h1 : 1 ≤ s := by omega
  have h2 := Nat.div_add_mod (bs.length + s - 1) s
  have h3 := Nat.mod_lt (bs.length + s - 1) h1
  rw [Nat.mul_comm] at h2
  omega
/-- The pieces, one behind the other. -/
def catS (l : List (List UInt8)) : List UInt8 := l.flatten
theorem catS_take_succ (l : List (List UInt8)) (k : Nat) (h : k < l.length) : catS (l.take (k + 1)) = catS (l.take k) ++ l[k] := by
  unfold catS
  rw [List.take_succ_eq_append_getElem h, List.flatten_append]
  simp
theorem catS_len (l : List (List UInt8)) (k : Nat) : (catS (l.take k)).length ≤ (catS l).length := by
  unfold catS
  have h := List.take_append_drop k l
  have h2 := congrArg (fun x : List (List UInt8) => x.flatten.length) h
  simp only [List.flatten_append, List.length_append] at h2
  omega
theorem SlvR.below {w w' : World} {v : Value} {bs : List UInt8} (h : SlvR w v bs) (hb : Below w.heap.size w w') : SlvR w' v bs := by
  obtain ⟨A, c, rfl, hr⟩ := h
  exact ⟨A, c, rfl, hr.below hb⟩

end Go.Proofs.YtgmmdijmlnehlaaDoor
