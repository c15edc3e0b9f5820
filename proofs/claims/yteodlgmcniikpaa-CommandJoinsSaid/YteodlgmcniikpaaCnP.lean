import Derived.Test.YteodlgmcniikpaaDiceB
import Derived.Test.YteodlgmcniikpaaClone
namespace Go.Proofs.Yteodlgmcniikpaa
open Go.RowKit Go.TravelBase Go.TravelAbs
set_option linter.unusedVariables false
set_option linter.unusedSimpArgs false

@[go_sem] theorem take_app2 {α : Type} (a b : List α) : List.take (a.length + b.length) (a ++ b) = a ++ b := List.take_of_length_le (by simp)
@[go_sem] theorem take_app_1 {α : Type} (a : List α) (x : α) : List.take (a.length + 1) (a ++ [x]) = a ++ [x] := List.take_of_length_le (by simp)
@[go_sem] theorem take_app_2 {α : Type} (a : List α) (x y : α) : List.take (a.length + 2) (a ++ [x, y]) = a ++ [x, y] := List.take_of_length_le (by simp)
@[go_sem] theorem fdiv8 (x : Int) : x.fdiv (2 ^ 8) = x / 256 := Int.fdiv_eq_ediv_of_nonneg _ (by decide)
@[go_sem] theorem take_take_ {α : Type} (m : Nat) (l : List α) : (l.take m).take m = l.take m := by rw [List.take_take, Nat.min_self]
@[go_sem] theorem take_rep_ {α : Type} (n : Nat) (x : α) : List.take n (List.replicate n x) = List.replicate n x := List.take_of_length_le (by simp)
attribute [go_sem] Nat.le_refl
/-! ### Commands, in plain words -/
structure Cm where
  cls : Int
  ins : Int
  p1 : Int
  p2 : Int
  data : List UInt8
  exp : Int
def C0 : Cm := ⟨0, 0, 0, 0, [], 0⟩
def cmA (c : Cm) : AV := .agg [.lit (.int .i64 c.cls), .lit (.int .i64 c.ins), .lit (.int .i64 c.p1), .lit (.int .i64 c.p2), .by_ c.data, .lit (.int .i64 c.exp)]
def unC : AV → Cm
  | .agg [.lit (.int _ a), .lit (.int _ b), .lit (.int _ c), .lit (.int _ d), .by_ e, .lit (.int _ f)] => ⟨a, b, c, d, e, f⟩
  | _ => C0
theorem un_cm (f : Cm) : unC (cmA f) = f := rfl
theorem un_cms (l : List Cm) : (l.map cmA).map unC = l := by
  rw [List.map_map]
  exact (List.map_congr_left fun x _ => un_cm x).trans (List.map_id _)
theorem Tr_cms (l : List Cm) : Tr (.li 6 (l.map cmA)) = True := eq_true (Tr.li fun x hx y hy => by
  obtain ⟨f, _, rfl⟩ := List.mem_map.1 hx
  simp only [cmA, AV.cl, List.mem_cons, List.not_mem_nil, or_false] at hy
  rcases hy with rfl | rfl | rfl | rfl | rfl | rfl <;> first | exact Tr.lit _ | exact Tr.by_ _)
theorem TrC_cms (l : List Cm) : TrC (.li 6 (l.map cmA)) = True := eq_true (TrC.li fun x hx y hy => by
  obtain ⟨f, _, rfl⟩ := List.mem_map.1 hx
  simp only [cmA, AV.cl, List.mem_cons, List.not_mem_nil, or_false] at hy
  rcases hy with rfl | rfl | rfl | rfl | rfl | rfl <;> first | exact Tr.lit _ | exact Tr.by_ _)
theorem cm_at {l : List Cm} {i : Nat} (h : i < l.length) : (l.map cmA).getD i .any = .agg [.lit (.int .i64 l[i].cls), .lit (.int .i64 l[i].ins), .lit (.int .i64 l[i].p1), .lit (.int .i64 l[i].p2), .by_ l[i].data, .lit (.int .i64 l[i].exp)] := by
  simp [List.getD, List.getElem?_eq_getElem h, cmA]

def ValC (c : Cm) : Prop := ((0 ≤ c.ins ∧ c.ins ≤ 255) ∧ (0 ≤ c.p1 ∧ c.p1 ≤ 255) ∧ (0 ≤ c.p2 ∧ c.p2 ≤ 255)) ∧ (0 ≤ c.cls ∧ c.cls ≤ 254) ∧ (c.data.length : Int) ≤ 4096 ∧ (c.exp = -1 ∨ 1 ≤ c.exp ∧ c.exp ≤ 65536)
instance (c : Cm) : Decidable (ValC c) := by unfold ValC; infer_instance
def valC (c : Cm) : Bool := decide (ValC c)
def hdC (c : Cm) : List UInt8 := [byt c.cls, byt c.ins, byt c.p1, byt c.p2]
/-- A number in one byte, in two bytes. -/
def b1 (n : Int) : List UInt8 := [byt n]
def b2 (n : Int) : List UInt8 := [byt (n / 256), byt n]
def bn (two : Bool) (n : Int) : List UInt8 := if two then b2 n else b1 n
def lngC (c : Cm) : Bool := decide (255 < (c.data.length : Int) ∨ 256 < c.exp)
def encB (c : Cm) : List UInt8 := hdC c ++ (if lngC c then [0] else []) ++ (if c.data = [] then [] else bn (lngC c) c.data.length ++ c.data) ++ (if c.exp = -1 then [] else bn (lngC c) c.exp)
def encV (c : Cm) : List UInt8 := if ValC c then encB c else []
def encE (c : Cm) : Int := if ValC c then 0 else 14

theorem byt_pos {x : Int} (h : 0 ≤ x) : byt x = UInt8.ofNat x.toNat := by
  unfold byt
  apply UInt8.toNat_inj.1
  simp only [UInt8.toNat_ofNat']
  rw [IntKind.wrap_u8]
  omega
theorem byt_to {x : Int} (h : 0 ≤ x) : (byt x).toNat = x.toNat % 256 := by
  rw [byt_pos h]
  simp
theorem byt_back {x : Int} (h : 0 ≤ x ∧ x ≤ 255) : ((byt x).toNat : Int) = x := by
  rw [byt_to h.1]
  omega
theorem back_byt (b : UInt8) : byt (b.toNat : Int) = b := by
  apply UInt8.toNat_inj.1
  rw [byt_to (by omega)]
  have := b.toNat_lt
  omega
theorem byt_mod {x y : Int} (hx : 0 ≤ x) (hy : 0 ≤ y) (h : x % 256 = y % 256) : byt x = byt y := by
  apply UInt8.toNat_inj.1
  rw [byt_to hx, byt_to hy]
  omega
theorem beS_1 (n : Nat) : beS n 1 = [byt n] := by
  simp only [beS, p256, Nat.pow_zero, Nat.div_one]
  rw [byt_pos (by omega)]
  rfl
theorem beS_2 (n : Nat) : beS n 2 = [byt (n / 256 : Nat), byt n] := by
  simp only [beS, p256, Nat.pow_zero, Nat.div_one, Nat.pow_one]
  rw [byt_pos (by omega), byt_pos (by omega)]
  rfl
theorem number1 {n : Int} (h : 0 ≤ n) : octL (n.tmod 256) 1 = b1 n := by
  have h1 := Int.tmod_eq_emod_of_nonneg (b := 256) h
  have e : octE (n.tmod 256) 1 = 0 := by
    unfold octE p256
    rw [if_neg (by omega), if_neg (by simp; omega)]
  unfold octL
  rw [if_pos e]
  show beS _ 1 = _
  rw [beS_1, b1]
  congr 1
  exact byt_mod (by omega) h (by omega)
theorem number2 {n : Int} (h : 0 ≤ n) : octL (n.tmod 65536) 2 = b2 n := by
  have h1 := Int.tmod_eq_emod_of_nonneg (b := 65536) h
  have e : octE (n.tmod 65536) 2 = 0 := by
    unfold octE p256
    rw [if_neg (by omega), if_neg (by simp; omega)]
  unfold octL
  rw [if_pos e]
  show beS _ 2 = _
  rw [beS_2, b2]
  congr 1
  · exact byt_mod (by omega) (by omega) (by omega)
  · congr 1
    exact byt_mod (by omega) h (by omega)

/-! #### Reading -/
def pw8 (k : Nat) : Int := if k = 1 then 256 else 65536
/-- The number of expected bytes. -/
def expd (b : List UInt8) : Int := if (numS b : Int) = 0 then pw8 b.length else numS b
/-- What is behind the head, with numbers of s bytes: the data and the number of expected bytes. -/
def bodyOK (r : List UInt8) (s : Nat) : Prop := r.length = s ∨ s < r.length ∧ numS (r.take s) ≠ 0 ∧ numS (r.take s) ≤ 4096 ∧ (r.length = s + numS (r.take s) ∨ r.length = s + numS (r.take s) + s)
instance (r : List UInt8) (s : Nat) : Decidable (bodyOK r s) := by unfold bodyOK; infer_instance
def bodyD (r : List UInt8) (s : Nat) : List UInt8 := if r.length = s then [] else (r.drop s).take (numS (r.take s))
def bodyE (r : List UInt8) (s : Nat) : Int := if r.length = s then expd r else if r.length = s + numS (r.take s) then -1 else expd ((r.drop s).drop (numS (r.take s)))
/-- 0: nothing, 1: numbers of one byte, 2: of two bytes behind a 0. -/
def form (r : List UInt8) : Nat := if r.length = 0 then 0 else if r.length = 1 ∨ r.getD 0 0 ≠ 0 then 1 else 2
def rest2 (r : List UInt8) : List UInt8 := if form r = 2 then r.drop 1 else r
def decOK (r : List UInt8) : Prop := form r = 0 ∨ bodyOK (rest2 r) (form r)
instance (r : List UInt8) : Decidable (decOK r) := by unfold decOK; infer_instance
def decD (r : List UInt8) : List UInt8 := if form r = 0 then [] else bodyD (rest2 r) (form r)
def decX (r : List UInt8) : Int := if form r = 0 then -1 else bodyE (rest2 r) (form r)
def decE (b : List UInt8) : Int := if b.length < 4 then 6 else if ¬ decOK (b.drop 4) then 2 else if (b.getD 0 0).toNat = 255 then 14 else 0
def decV (b : List UInt8) : Cm := if decE b = 0 then ⟨(b.getD 0 0).toNat, (b.getD 1 0).toNat, (b.getD 2 0).toNat, (b.getD 3 0).toNat, decD (b.drop 4), decX (b.drop 4)⟩ else C0
end Go.Proofs.Yteodlgmcniikpaa
