import Derived.Test.YtjhiagelgleomaaBase
import Derived.BigRegion
import Derived.Handy
import Derived.Laws.Rows
import Derived.Deep.MidRow
import Derived.Deep.AppendSrc
namespace Go.TravelAbs
open Go.RowKit Go.TravelBase
set_option linter.unusedVariables false
set_option linter.unusedSimpArgs false

/-! ## Abstract values: what a value reads as -/
inductive AV where
  | lit (v : Value)
  | by_ (bs : List UInt8)
  | li (es : Nat) (xs : List AV)
  | agg (xs : List AV)
  | tup (xs : List AV)
  | sl (k es i n : Nat)
  | ptr (k i off : Nat)
  | ep (x : AV) (off : Nat)
  | clo (f : FuncId) (caps : List AV)
  | opt (c : Bool) (x : AV)
  | fr (x : AV)
  | any
instance : Inhabited AV := ⟨.any⟩
/-- The cells of an abstract value. -/
def AV.cl : AV → List AV
  | .agg xs => xs
  | x => [x]
/-- A byte. -/
def bA (b : UInt8) : AV := .lit (.int .u8 (b.toNat : Int))
/-- The content of a list: how many elements, the cells of an element, an element. -/
def cN : AV → Nat
  | .by_ bs => bs.length
  | .li _ xs => xs.length
  | _ => 0
def cE : AV → Nat
  | .li es _ => es
  | _ => 1
def cAt (c : AV) (i : Nat) : AV :=
  match c with
  | .by_ bs => bA (bs.getD i 0)
  | .li _ xs => xs.getD i .any
  | _ => .any
structure Row where
  g : Nat
  cap : Nat
  es : Nat
abbrev RMap := Nat → Option Row
abbrev CSet := Nat → Nat → Prop
/-- n elements of es cells each lie, settled, behind the address A. -/
def Lies (w : World) (S : CSet) (A : Option Addr) (k : Nat) (us : Nat → Value) : Prop :=
  k = 0 ∨ ∃ b off, A = some ⟨b, off, none⟩ ∧ ∀ i, i < k → S b (off + i) ∧ w.cell? ⟨b, off + i, none⟩ = some (us i)

/-- What a value reads as. -/
inductive VR (w : World) (S : CSet) (m : RMap) : AV → Value → Prop
  | lit (v : Value) : VR w S m (.lit v) v
  | any (v : Value) : VR w S m .any v
  | opt {c : Bool} {x : AV} {v : Value} (h : c = true → VR w S m x v) (h0 : c = false → v = undef) : VR w S m (.opt c x) v
  | agg {xs : List AV} {cs : Array Value} (hl : cs.size = xs.length) (h : ∀ (j : Nat) (x : AV) (u : Value), xs[j]? = some x → cs[j]? = some u → VR w S m x u) : VR w S m (.agg xs) (.agg cs)
  | tup {xs : List AV} {cs : Array Value} (hl : cs.size = xs.length) (h : ∀ (j : Nat) (x : AV) (u : Value), xs[j]? = some x → cs[j]? = some u → VR w S m x u) : VR w S m (.tup xs) (.tuple cs)
  | by_ {bs : List UInt8} {A : Option Addr} {n c : Nat} (hn : bs.length = n) (hc : n ≤ c) (hm : c ≤ maxLen) (h0 : A = none → c = 0) (hA : Lies w S A n (fun i => .int .u8 ((bs.getD i 0).toNat : Int))) :
      VR w S m (.by_ bs) (.slice A n c)
  | li {es : Nat} {xs : List AV} {A : Option Addr} {n c : Nat} (us : Nat → Value) (hn : xs.length = n) (hc : n ≤ c) (hm : c ≤ maxLen) (h0 : A = none → c = 0)
      (hes : 0 < es) (he : ∀ x ∈ xs, x.cl.length = es) (hA : Lies w S A (n * es) us)
      (h : ∀ (i j : Nat) (x y : AV), xs[i]? = some x → x.cl[j]? = some y → VR w S m y (us (i * es + j))) : VR w S m (.li es xs) (.slice A n c)
  | sl {k es i n : Nat} {r : Row} {A : Option Addr} (hm : m k = some r) (he : r.es = es) (hi : i + n ≤ r.cap) (hc : r.cap ≤ maxLen) (hA : i < r.cap → A = some ⟨r.g, i * r.es, none⟩) (h0 : A = none → r.cap - i = 0) :
      VR w S m (.sl k es i n) (.slice A n (r.cap - i))
  | ptr {k i off : Nat} {r : Row} (hm : m k = some r) : VR w S m (.ptr k i off) (.pointer (some ⟨r.g, i * r.es + off, none⟩))
  | ep {x : AV} {off b o : Nat} (us : Nat → Value) (hA : ∀ j, j < x.cl.length → S b (o + j) ∧ w.cell? ⟨b, o + j, none⟩ = some (us j))
      (h : ∀ (j : Nat) (y : AV), x.cl[j]? = some y → VR w S m y (us j)) : VR w S m (.ep x off) (.pointer (some ⟨b, o + off, none⟩))
  | clo {f : FuncId} {caps : List AV} {cs : Array Value} (hl : cs.size = caps.length) (h : ∀ (j : Nat) (x : AV) (u : Value), caps[j]? = some x → cs[j]? = some u → VR w S m x u) :
      VR w S m (.clo f caps) (.func (.func f) #[] cs)

theorem Lies.mono {w w' : World} {S S' : CSet} {A : Option Addr} {k : Nat} {us : Nat → Value} (h : Lies w S A k us)
    (hS : ∀ b o, S b o → S' b o ∧ w'.cell? ⟨b, o, none⟩ = w.cell? ⟨b, o, none⟩) : Lies w' S' A k us := by
  rcases h with h | ⟨b, off, e, h⟩
  · exact .inl h
  · refine .inr ⟨b, off, e, fun i hi => ?_⟩
    obtain ⟨h1, h2⟩ := h i hi
    obtain ⟨h3, h4⟩ := hS b _ h1
    exact ⟨h3, h4.trans h2⟩
theorem VR.mono {w w' : World} {S S' : CSet} {m m' : RMap} (hS : ∀ b o, S b o → S' b o ∧ w'.cell? ⟨b, o, none⟩ = w.cell? ⟨b, o, none⟩) (hm : ∀ k r, m k = some r → m' k = some r)
    {x : AV} {v : Value} (h : VR w S m x v) : VR w' S' m' x v := by
  induction h with
  | lit v => exact .lit v
  | any v => exact .any v
  | opt _ h0 ih => exact .opt ih h0
  | agg hl _ ih => exact .agg hl ih
  | tup hl _ ih => exact .tup hl ih
  | by_ hn hc hM h0 hA => exact .by_ hn hc hM h0 (hA.mono hS)
  | li us hn hc hM h0 hes he hA _ ih => exact .li us hn hc hM h0 hes he (hA.mono hS) ih
  | sl h1 h2 h3 h4 h5 h6 => exact .sl (hm _ _ h1) h2 h3 h4 h5 h6
  | ptr h1 => exact .ptr (hm _ _ h1)
  | ep us hA _ ih => exact .ep us (fun j hj => by obtain ⟨h1, h2⟩ := hA j hj; obtain ⟨h3, h4⟩ := hS _ _ h1; exact ⟨h3, h4.trans h2⟩) ih
  | clo hl _ ih => exact .clo hl ih

/-- One cell? -/
def AV.one : AV → Bool
  | .lit v => v.oneCell'
  | .agg _ => false
  | .tup _ => false
  | .opt _ _ => false
  | .fr _ => false
  | .any => false
  | _ => true
theorem VR.one {w : World} {S : CSet} {m : RMap} {x : AV} {v : Value} (h : VR w S m x v) (h1 : x.one = true) : v.oneCell' = true := by
  cases h <;> first | exact h1 | rfl | cases h1

/-! ## Blocks of the call's own -/
/-- mode 0: may be written; 1: settled, may be appended to; 2: settled; 3: forgotten. -/
structure Blk where
  c : AV
  mode : Nat
  ln : Bool
/-- The content c is read in block g. -/
def Rdg (w : World) (S : CSet) (m : RMap) (g es : Nat) (c : AV) : Prop :=
  ∀ i, i < cN c → (cAt c i).cl.length = es ∧ ∀ j y, (cAt c i).cl[j]? = some y → ∃ u, w.cell? ⟨g, i * es + j, none⟩ = some u ∧ VR w S m y u
structure BR (w : World) (S : CSet) (m : RMap) (own : Bool → Nat → Prop) (b : Blk) (r : Row) : Prop where
  es : r.es = cE b.c
  len : cN b.c ≤ r.cap
  max : r.cap ≤ maxLen
  rd : Rdg w S m r.g r.es b.c
  set : 1 ≤ b.mode → ∀ o, o < cN b.c * r.es → S r.g o
  row : b.mode ≤ 1 → 0 < r.cap → own b.ln r.g ∧ (∃ cur T, w.heap[r.g]? = some (.cells cur T) ∧ cur.size = r.cap * r.es) ∧ (∀ o, (b.mode = 0 ∨ cN b.c * r.es ≤ o) → ¬ S r.g o)
theorem cell_of_heap {w w' : World} {g : Nat} (h : w'.heap[g]? = w.heap[g]?) (o : Nat) : w'.cell? ⟨g, o, none⟩ = w.cell? ⟨g, o, none⟩ := by
  unfold World.cell?
  rw [h]
theorem row_mul {i j n es : Nat} (hi : i < n) (hj : j < es) : i * es + j < n * es := by
  have : (i + 1) * es ≤ n * es := Nat.mul_le_mul_right es hi
  rw [Nat.add_mul] at this
  omega
theorem BR.keep {w w' : World} {S S' : CSet} {m m' : RMap} {own : Bool → Nat → Prop} {b : Blk} {r : Row} (h : BR w S m own b r)
    (hS : ∀ b o, S b o → S' b o ∧ w'.cell? ⟨b, o, none⟩ = w.cell? ⟨b, o, none⟩) (hm : ∀ k r, m k = some r → m' k = some r)
    (hg : b.mode ≤ 1 → 0 < r.cap → w'.heap[r.g]? = w.heap[r.g]? ∧ ∀ o, S' r.g o → S r.g o) : BR w' S' m' own b r := by
  refine ⟨h.es, h.len, h.max, fun i hi => ?_, fun h1 o ho => (hS _ _ (h.set h1 o ho)).1, fun h1 hc => ?_⟩
  · obtain ⟨h1, h2⟩ := h.rd i hi
    refine ⟨h1, fun j y hy => ?_⟩
    obtain ⟨u, hu, hv⟩ := h2 j y hy
    refine ⟨u, ?_, hv.mono hS hm⟩
    have hj : j < r.es := by rw [← h1]; exact (List.getElem?_eq_some_iff.1 hy).1
    have hlen := h.len
    rcases Nat.lt_or_ge 1 b.mode with hb | hb
    · exact ((hS _ _ (h.set (by omega) _ (row_mul hi hj))).2).trans hu
    · exact (cell_of_heap (hg hb (by omega)).1 _).trans hu
  · obtain ⟨h2, ⟨cur, T, h3, h4⟩, h5⟩ := h.row h1 hc
    obtain ⟨h6, h7⟩ := hg h1 hc
    exact ⟨h2, ⟨cur, T, h6.trans h3, h4⟩, fun o ho hs => h5 o ho (h7 o hs)⟩

/-! ## States -/
def lk {α : Type} : List (Nat × α) → Nat → Option α
  | [], _ => none
  | x :: r, k => if k = x.1 then some x.2 else lk r k
structure St where
  tm : List (Nat × AV)
  H : List (Nat × Blk)
  ctr : Nat
  sz : Nat
def gt (tm : List (Nat × AV)) (t : Nat) : AV := (lk tm t).getD .any
/-- What stands round a call: where its own blocks begin, the world at its start, what was settled then, the blocks lent to it. -/
structure Cx where
  w0 : World
  S0 : CSet
  nl : Nat
  rows : Nat → Row
def Cx.lent (X : Cx) (g : Nat) : Prop := ∃ p, p < X.nl ∧ (X.rows p).g = g
def Cx.own (X : Cx) (ln : Bool) (g : Nat) : Prop := if ln = true then X.lent g else X.w0.heap.size ≤ g
/-- The frame: what a call may change. -/
structure Frm (X : Cx) (w : World) : Prop where
  os : w.os = X.w0.os
  tape : w.tape = X.w0.tape
  output : w.output = X.w0.output
  size : X.w0.heap.size ≤ w.heap.size
  block : ∀ g, g < X.w0.heap.size → ¬ X.lent g → w.heap[g]? = X.w0.heap[g]?
/-- The memory of a state. -/
structure Mem (X : Cx) (H : List (Nat × Blk)) (S : CSet) (m : RMap) (w : World) : Prop where
  lm : ∀ p, p < X.nl → m p = some (X.rows p)
  frm : Frm X w
  s0 : ∀ b o, X.S0 b o → S b o
  s1 : ∀ b o, S b o → X.S0 b o ∨ X.w0.heap.size ≤ b
  slt : ∀ b o, S b o → b < w.heap.size
  dom : ∀ k, lk H k = none → m k = none
  blk : ∀ k b, lk H k = some b → ∃ r, m k = some r ∧ (b.mode < 3 → BR w S m X.own b r)
  inj : ∀ k k' b b' r r', lk H k = some b → lk H k' = some b' → m k = some r → m k' = some r' → b.mode ≤ 1 → b'.mode ≤ 1 → 0 < r.cap → 0 < r'.cap → r.g = r'.g → k = k'
def mset (m : RMap) (k : Nat) (r : Row) : RMap := fun j => if j = k then some r else m j
theorem mset_le {m : RMap} {k : Nat} {r : Row} (h : m k = none ∨ m k = some r) : ∀ j q, m j = some q → mset m k r j = some q := by
  intro j q hj
  unfold mset
  split
  · rename_i e
    subst e
    rcases h with h | h <;> rw [h] at hj
    · cases hj
    · exact hj
  · exact hj
/-- One block more, or one block changed. -/
theorem Mem.upd {X : Cx} {H : List (Nat × Blk)} {S S' : CSet} {m : RMap} {w w' : World} (h : Mem X H S m w) (k : Nat) (b : Blk) (r : Row) (hk : m k = none ∨ m k = some r)
    (hS : ∀ b o, S b o → S' b o ∧ w'.cell? ⟨b, o, none⟩ = w.cell? ⟨b, o, none⟩) (hfrm : Frm X w')
    (hs1 : ∀ b o, S' b o → X.S0 b o ∨ X.w0.heap.size ≤ b) (hslt : ∀ b o, S' b o → b < w'.heap.size)
    (hoth : ∀ j bj rj, j ≠ k → lk H j = some bj → m j = some rj → bj.mode ≤ 1 → 0 < rj.cap → w'.heap[rj.g]? = w.heap[rj.g]? ∧ (∀ o, S' rj.g o → S rj.g o) ∧ (b.mode ≤ 1 → 0 < r.cap → rj.g ≠ r.g))
    (hb : b.mode < 3 → BR w' S' (mset m k r) X.own b r) : Mem X ((k, b) :: H) S' (mset m k r) w' := by
  have hle := mset_le (k := k) (r := r) hk
  refine ⟨fun p hp => hle _ _ (h.lm p hp), hfrm, fun b o h0 => (hS _ _ (h.s0 b o h0)).1, hs1, hslt, ?_, ?_, ?_⟩
  · intro j hj
    simp only [lk] at hj
    split at hj
    · cases hj
    · rename_i hne
      simp only [mset, if_neg hne]
      exact h.dom j hj
  · intro j bj hj
    simp only [lk] at hj
    split at hj
    · rename_i e
      injection hj with hj
      subst hj e
      exact ⟨r, by simp [mset], hb⟩
    · rename_i hne
      obtain ⟨rj, h1, h2⟩ := h.blk j bj hj
      exact ⟨rj, hle _ _ h1, fun hm => (h2 hm).keep hS hle fun hm1 hc => by
        obtain ⟨q1, q2, _⟩ := hoth j bj rj hne hj h1 hm1 hc
        exact ⟨q1, q2⟩⟩
  · intro j j' bj bj' rj rj' h1 h2 h3 h4 h5 h6 h7 h8 h9
    simp only [lk] at h1 h2
    simp only [mset] at h3 h4
    split at h1
    · rename_i e
      split at h2
      · rename_i e'; rw [e, e']
      · rename_i hne
        exfalso
        injection h1 with h1
        subst h1
        rw [if_pos e] at h3
        injection h3 with h3
        subst h3
        rw [if_neg hne] at h4
        exact (hoth j' bj' rj' hne h2 h4 h6 h8).2.2 h5 h7 h9.symm
    · rename_i hne
      split at h2
      · rename_i e'
        exfalso
        injection h2 with h2
        subst h2
        rw [if_pos e'] at h4
        injection h4 with h4
        subst h4
        rw [if_neg hne] at h3
        exact (hoth j bj rj hne h1 h3 h5 h7).2.2 h6 h8 h9
      · rename_i hne'
        rw [if_neg hne] at h3
        rw [if_neg hne'] at h4
        exact h.inj j j' bj bj' rj rj' h1 h2 h3 h4 h5 h6 h7 h8 h9
/-- The row of a block may be appended to, or written, by nobody else. -/
theorem Mem.apart {X : Cx} {H : List (Nat × Blk)} {S : CSet} {m : RMap} {w : World} (h : Mem X H S m w) {k j : Nat} {b bj : Blk} {r rj : Row} (hk : lk H k = some b) (hr : m k = some r) (hm : b.mode ≤ 1) (hc : 0 < r.cap)
    (hj : lk H j = some bj) (hrj : m j = some rj) (hmj : bj.mode ≤ 1) (hcj : 0 < rj.cap) (hne : j ≠ k) : rj.g ≠ r.g :=
  fun e => hne (h.inj j k bj b rj r hj hk hrj hr hmj hm hcj hc e)
theorem Mem.lt {X : Cx} {H : List (Nat × Blk)} {S : CSet} {m : RMap} {w : World} (h : Mem X H S m w) {k : Nat} {b : Blk} {r : Row} (hk : lk H k = some b) (hr : m k = some r) (hm : b.mode ≤ 1) (hc : 0 < r.cap) : r.g < w.heap.size := by
  obtain ⟨r', h1, h2⟩ := h.blk k b hk
  rw [hr] at h1
  injection h1 with h1
  subst h1
  obtain ⟨_, ⟨cur, T, h3, _⟩, _⟩ := (h2 (by omega)).row hm hc
  rcases Nat.lt_or_ge r.g w.heap.size with hl | hl
  · exact hl
  · rw [Array.getElem?_eq_none hl] at h3; cases h3
end Go.TravelAbs
