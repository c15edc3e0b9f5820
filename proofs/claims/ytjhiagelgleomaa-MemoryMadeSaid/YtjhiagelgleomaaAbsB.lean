import Derived.Test.YtjhiagelgleomaaAbsA
namespace Go.TravelAbs
open Go.RowKit Go.TravelBase
set_option linter.unusedVariables false
set_option linter.unusedSimpArgs false

/-! ## Types -/
inductive TK where
  | one
  | int (k : IntKind)
  | bool
  | str
  | slice (e : Nat)
  | struct (fs : List (Nat × Nat × Bool))
  | array (n e : Nat)
structure TI where
  kind : TK
  size : Nat
  bytes : Nat
  zero : List Value
abbrev Ty := Nat → Option TI
def rowB : Option TypeDesc → Bool
  | some (.struct _) => true
  | some (.array _ _) => true
  | _ => false
def fsz (P : Program) (t : TypeId) : Nat := if (P.underlying t).isSome then ((P.info? t).map (·.size)).getD 0 else 0
def fieldsB (P : Program) (fields : Array Field) : List (Nat × Nat × Bool) := fields.toList.map fun f => (f.offset, fsz P f.type, rowB (P.underlying f.type))
def KOK (P : Program) (d : TypeDesc) : TK → Prop
  | .one => rowB (some d) = false
  | .int k => d = .int k
  | .bool => d = .bool
  | .str => d = .string
  | .slice e => d = .slice e
  | .struct fs => ∃ fields, d = .struct fields ∧ fieldsB P fields = fs
  | .array n e => d = .array n e
structure TyOK (P : Program) (t : TypeId) (ti : TI) : Prop where
  ok : ∃ i d z, P.info? t = some i ∧ P.underlying t = some d ∧ i.size = ti.size ∧ i.bytes = ti.bytes ∧ i.zero = some z ∧ z.cells.toList = ti.zero ∧ KOK P d ti.kind
def TysOK (P : Program) (ty : Ty) : Prop := ∀ t ti, ty t = some ti → TyOK P t ti
def TK.row : TK → Bool
  | .struct _ => true
  | .array _ _ => true
  | _ => false

/-! ## Operations that touch no memory -/
def stp : AV → AV
  | .opt _ x => stp x
  | x => x
def cnd : AV → Prop
  | .opt c x => c = true ∧ cnd x
  | _ => True
def cndB : AV → Bool
  | .opt c x => c && cndB x
  | _ => true
theorem cndB_cnd : ∀ x : AV, cndB x = true → cnd x
  | .opt c x, h => by
    simp only [cndB, Bool.and_eq_true] at h
    exact ⟨h.1, cndB_cnd x h.2⟩
  | .lit _, _ => trivial
  | .by_ _, _ => trivial
  | .li _ _, _ => trivial
  | .agg _, _ => trivial
  | .tup _, _ => trivial
  | .sl _ _ _ _, _ => trivial
  | .ptr _ _ _, _ => trivial
  | .ep _ _, _ => trivial
  | .clo _ _, _ => trivial
  | .fr _, _ => trivial
  | .any, _ => trivial
theorem VR.undef_of {w : World} {S : CSet} {m : RMap} {x : AV} {v : Value} (h : VR w S m x v) : cndB x = false → v = undef := by
  induction h with
  | @opt c x v h h0 ih =>
    intro hc
    simp only [cndB] at hc
    cases c
    · exact h0 rfl
    · exact ih rfl hc
  | _ => intro hc; cases hc
theorem VR.strip {w : World} {S : CSet} {m : RMap} {x : AV} {v : Value} (h : VR w S m x v) : cnd x → VR w S m (stp x) v := by
  induction h with
  | opt h _ ih => exact fun hc => ih hc.1 hc.2
  | lit v => exact fun _ => .lit v
  | any v => exact fun _ => .any v
  | agg hl h _ => exact fun _ => .agg hl h
  | tup hl h _ => exact fun _ => .tup hl h
  | by_ h1 h2 h3 h4 h5 => exact fun _ => .by_ h1 h2 h3 h4 h5
  | li us h1 h2 h3 h4 h5 h6 h7 h8 _ => exact fun _ => .li us h1 h2 h3 h4 h5 h6 h7 h8
  | sl h1 h2 h3 h4 h5 h6 => exact fun _ => .sl h1 h2 h3 h4 h5 h6
  | ptr h1 => exact fun _ => .ptr h1
  | ep us h1 h2 _ => exact fun _ => .ep us h1 h2
  | clo hl h _ => exact fun _ => .clo hl h
def inR (k : IntKind) (z : Int) : Prop := k.wrap z = z
def isCmp : BinOp → Bool
  | .eql | .neq | .lss | .leq | .gtr | .geq => true
  | _ => false
def cmpI (op : BinOp) (x y : Int) : Bool :=
  match op with
  | .eql => x == y
  | .neq => x != y
  | .lss => x < y
  | .leq => x ≤ y
  | .gtr => x > y
  | _ => x ≥ y
def bopI (op : BinOp) (k : IntKind) (x y : Int) : AV × Prop :=
  match op with
  | .add => (.lit (.int k (x + y)), inR k (x + y))
  | .sub => (.lit (.int k (x - y)), inR k (x - y))
  | .mul => (.lit (.int k (x * y)), inR k (x * y))
  | .quo => (.lit (.int k (x.tdiv y)), y ≠ 0 ∧ inR k (x.tdiv y))
  | .rem => (.lit (.int k (x.tmod y)), y ≠ 0)
  | .and => (.lit (.int k (bits .and k x y)), True)
  | .or => (.lit (.int k (bits .or k x y)), True)
  | .xor => (.lit (.int k (bits .xor k x y)), True)
  | .andNot => (.lit (.int k (bits .andNot k x y)), True)
  | op => (.lit (.bool (cmpI op x y)), isCmp op = true)
def bopS (op : BinOp) (s t : ByteArray) : Option AV :=
  match op with
  | .eql => some (.lit (.bool (s.toList == t.toList)))
  | .neq => some (.lit (.bool (!(s.toList == t.toList))))
  | _ => none
/-- Two structs whose cells are plain: equal? -/
def eqCells : List AV → List AV → Option Bool
  | [], [] => some true
  | .lit (.int k x) :: r, .lit (.int k' y) :: r' => if k = k' then (eqCells r r').map (fun b => (x == y) && b) else none
  | .lit (.bool x) :: r, .lit (.bool y) :: r' => (eqCells r r').map (fun b => (x == y) && b)
  | .lit (.string x) :: r, .lit (.string y) :: r' => (eqCells r r').map (fun b => (x == y) && b)
  | _, _ => none
/-- Where the type's row says nothing of the kind (.one), sums wrap. -/
def bopW (op : BinOp) (k : IntKind) (x y : Int) : AV × Prop :=
  match op with
  | .add => (.lit (.int k (k.wrap (x + y))), True)
  | .sub => (.lit (.int k (k.wrap (x - y))), True)
  | .mul => (.lit (.int k (k.wrap (x * y))), True)
  | op => bopI op k x y
def isOne : Option TI → Bool
  | some ⟨.one, _, _, _⟩ => true
  | _ => false
def bop (ty : Ty) (t : TypeId) (op : BinOp) (a b : AV) : Option (AV × Prop) :=
  match a, b with
  | .lit (.int k x), .lit (.int k' y) =>
    match op with
    | .shl => some (.lit (.int k (k.wrap (x * 2 ^ (min y.toNat k.bits)))), 0 ≤ y)
    | .shr => some (.lit (.int k (x.fdiv (2 ^ (min y.toNat k.bits)))), 0 ≤ y)
    | op => if k = k' then some (bif isOne (ty t) then bopW op k x y else bopI op k x y) else none
  | .lit (.bool p), .lit (.bool q) =>
    match ty t, op with
    | some ⟨.bool, _, _, _⟩, .eql => some (.lit (.bool (p == q)), True)
    | some ⟨.bool, _, _, _⟩, .neq => some (.lit (.bool (!(p == q))), True)
    | _, _ => none
  | .lit (.string s), .lit (.string t) => (bopS op s t).map fun x => (x, True)
  | _, _ => none
def uop (op : UnOp) (a : AV) : Option (AV × Prop) :=
  match op, a with
  | .not, .lit (.bool p) => some (.lit (.bool (!p)), True)
  | .neg, .lit (.int k x) => some (.lit (.int k (0 - x)), inR k (0 - x))
  | _, _ => none
def pickA (p : Bool) (a b : AV) : AV :=
  match stp a, stp b with
  | .lit (.bool x), .lit (.bool y) => .lit (.bool (bif p then x else y))
  | x, y => bif p then x else y
def idx : AV → Option Int
  | .lit (.int _ i) => some i
  | _ => none
/-- Take elements i .. i + n. -/
def sub (c : AV) (i n : Nat) : AV :=
  match c with
  | .by_ bs => .by_ ((bs.drop i).take n)
  | .li es xs => .li es ((xs.drop i).take n)
  | _ => .any
def isA : AV → Bool
  | .agg _ => true
  | _ => false
def evA (ty : Ty) (g : Operand → AV) (op : Op) : Option (AV × Prop) :=
  match op with
  | .move x => some (g x, True)
  | .assign x => some (g x, True)
  | .nilCheck x =>
    match stp (g x) with
    | .ptr k i off => some (.ptr k i off, cnd (g x))
    | .ep y off => some (.ep y off, cnd (g x))
    | _ => none
  | .pick c a b =>
    match stp (g c) with
    | .lit (.bool p) => some (pickA p (g a) (g b), cnd (g c) ∧ (p = true → cnd (g a)) ∧ (p = false → cnd (g b)))
    | _ => none
  | .binOp op t x y _ =>
    match bop ty t op (stp (g x)) (stp (g y)) with
    | some (v, vc) => some (v, cnd (g x) ∧ cnd (g y) ∧ vc)
    | none => none
  | .unOp op _ x =>
    match uop op (stp (g x)) with
    | some (v, vc) => some (v, cnd (g x) ∧ vc)
    | none => none
  | .convert src dst x =>
    match ty src, ty dst, stp (g x) with
    | some _, some ⟨.int k, _, _, _⟩, .lit (.int _ n) => some (.lit (.int k (k.wrap n)), cnd (g x))
    | _, _, _ => none
  | .extract t i =>
    match stp (g t) with
    | .tup xs => some (xs.getD i .any, cnd (g t) ∧ i < xs.length)
    | _ => none
  | .makeFunc (.func f) first caps => if first.isEmpty then some (.clo f (caps.toList.map fun x => stp (g x)), ∀ x ∈ caps.toList, cnd (g x)) else none
  | .fieldAddr t x f =>
    match ty t, stp (g x) with
    | some ⟨.struct fs, _, _, _⟩, .ptr k i off => some (.ptr k i (off + (fs.getD f (0, 0, false)).1), cnd (g x) ∧ f < fs.length ∧ (fs.getD f (0, 0, false)).2.1 ≠ 0)
    | some ⟨.struct fs, _, _, _⟩, .ep y off => some (.ep y (off + (fs.getD f (0, 0, false)).1), cnd (g x) ∧ f < fs.length ∧ (fs.getD f (0, 0, false)).2.1 ≠ 0)
    | _, _ => none
  | .field t x f =>
    match ty t, stp (g x) with
    | some ⟨.struct fs, _, _, _⟩, .agg xs =>
      match fs[f]? with
      | some (o, s, true) => some (.agg ((xs.drop o).take s), cnd (g x) ∧ s ≠ 0 ∧ o + s ≤ xs.length)
      | some (o, s, false) => some (xs.getD o .any, cnd (g x) ∧ s ≠ 0 ∧ o < xs.length)
      | none => none
    | _, _ => none
  | .indexAddr t x i =>
    match ty t, stp (g x), idx (stp (g i)) with
    | some ⟨.slice e, _, _, _⟩, .by_ bs, some z =>
      match ty e with
      | some te => some (.ep (cAt (.by_ bs) z.toNat) 0, cnd (g x) ∧ cnd (g i) ∧ 0 ≤ z ∧ z < bs.length ∧ te.size = 1)
      | none => none
    | some ⟨.slice e, _, _, _⟩, .li es xs, some z =>
      match ty e with
      | some te => some (.ep (cAt (.li es xs) z.toNat) 0, cnd (g x) ∧ cnd (g i) ∧ 0 ≤ z ∧ z < xs.length ∧ te.size = es ∧ es ≠ 0)
      | none => none
    | some ⟨.slice e, _, _, _⟩, .sl k es j n, some z =>
      match ty e with
      | some te => some (.ptr k (j + z.toNat) 0, cnd (g x) ∧ cnd (g i) ∧ 0 ≤ z ∧ z < n ∧ te.size = es)
      | none => none
    | some ⟨.array n e, _, _, _⟩, .ptr k j off, some z =>
      match ty e with
      | some te => some (.ptr k j (off + z.toNat * te.size), cnd (g x) ∧ cnd (g i) ∧ 0 ≤ z ∧ z < n)
      | none => none
    | some ⟨.array n e, _, _, _⟩, .ep y off, some z =>
      match ty e with
      | some te => some (.ep y (off + z.toNat * te.size), cnd (g x) ∧ cnd (g i) ∧ 0 ≤ z ∧ z < n)
      | none => none
    | _, _, _ => none
  | .index t x i =>
    match ty t, stp (g x), idx (stp (g i)) with
    | some ⟨.array n e, _, _, _⟩, .agg xs, some z =>
      match ty e with
      | some te => if te.kind.row then none else some (xs.getD (z.toNat * te.size) .any, cnd (g x) ∧ cnd (g i) ∧ 0 ≤ z ∧ z < n ∧ z.toNat * te.size < xs.length)
      | none => none
    | some ⟨.str, _, _, _⟩, .lit (.string s), some z => some (.lit (.int .u8 ((s.data.toList.getD z.toNat 0).toNat : Int)), cnd (g x) ∧ cnd (g i) ∧ 0 ≤ z ∧ z < s.size)
    | _, _, _ => none
  | .slice t x lo hi mx =>
    match ty t with
    | some ⟨.slice e, _, _, _⟩ =>
      match mx with
      | some _ => none
      | none =>
        match stp (g x), (match lo with | none => some 0 | some l => idx (stp (g l))), (match hi with | none => some (none : Option Int) | some h => (idx (stp (g h))).map some) with
        | .by_ bs, some l, some h =>
          match ty e with
          | some te => some (.by_ ((bs.take ((h.getD bs.length).toNat)).drop l.toNat), te.size = 1 ∧ cnd (g x) ∧ (∀ y ∈ lo, cnd (g y)) ∧ (∀ y ∈ hi, cnd (g y)) ∧ 0 ≤ l ∧ l ≤ h.getD bs.length ∧ h.getD bs.length ≤ bs.length)
          | none => none
        | .li es xs, some l, some h =>
          match ty e with
          | some te => some (.li es ((xs.take ((h.getD xs.length).toNat)).drop l.toNat), te.size = es ∧ cnd (g x) ∧ (∀ y ∈ lo, cnd (g y)) ∧ (∀ y ∈ hi, cnd (g y)) ∧ 0 ≤ l ∧ l ≤ h.getD xs.length ∧ h.getD xs.length ≤ xs.length)
          | none => none
        | .sl k es j n, some l, some h =>
          match ty e with
          | some te => some (.sl k es (j + l.toNat) ((h.getD n).toNat - l.toNat), te.size = es ∧ cnd (g x) ∧ (∀ y ∈ lo, cnd (g y)) ∧ (∀ y ∈ hi, cnd (g y)) ∧ 0 ≤ l ∧ l ≤ h.getD n ∧ h.getD n ≤ n)
          | none => none
        | _, _, _ => none
    | _ => none
  | _ => none
end Go.TravelAbs
