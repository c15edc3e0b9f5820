import Derived.Test.YtjhiagelgleomaaAbsF
namespace Go.TravelAbs
open Go.RowKit Go.TravelBase
set_option linter.unusedVariables false
set_option linter.unusedSimpArgs false

/-! ## Operations on memory -/
structure Out where
  v : AV
  eff : List (Nat × Blk)
  vc : Prop
def zeroA (ti : TI) : AV := if ti.kind.row = true then .agg (ti.zero.map .lit) else .lit (ti.zero.headD undef)
def zOK (ti : TI) : Bool := ti.zero.length == ti.size && ti.zero.all (·.oneCell') && (ti.kind.row || ti.size == 1) && decide (0 < ti.size)
def isU8 (ti : TI) : Bool :=
  match ti.kind with
  | .int .u8 => true
  | _ => false
def isBy : AV → Bool
  | .by_ _ => true
  | _ => false
def ldA (ti : TI) (x : AV) (off : Nat) : AV × Prop :=
  if ti.kind.row = true then (.agg ((x.cl.drop off).take ti.size), off + ti.size ≤ x.cl.length) else (x.cl.getD off (zeroA ti), off < x.cl.length)
def emptyC (ti : TI) : AV := if isU8 ti = true then .by_ [] else .li ti.size []
def catC (a b : AV) : AV :=
  match a, b with
  | .by_ x, .by_ y => .by_ (x ++ y)
  | .li e x, .li _ y => .li e (x ++ y)
  | .li e x, .by_ [] => .li e x
  | _, _ => .any
def catOK (a b : AV) : Prop :=
  match a, b with
  | .by_ _, .by_ _ => True
  | .li _ _, .li _ _ => True
  | .li _ _, .by_ [] => True
  | _, _ => False
def cpA (a : AV) (i : Nat) (b : AV) (k : Nat) : AV :=
  match a, b with
  | .by_ x, .by_ y => .by_ (x.take i ++ y.take k ++ x.drop (i + k))
  | .li e x, .li _ y => .li e (x.take i ++ y.take k ++ x.drop (i + k))
  | _, _ => .any
def cpOK (a b : AV) : Prop :=
  match a, b with
  | .by_ _, .by_ _ => True
  | .li _ _, .li _ _ => True
  | _, _ => False
def mkC (te : TI) (xs : List AV) : AV := if isU8 te = true then .by_ (xs.map toB) else .li te.size xs
def mkOK (te : TI) (xs : List AV) : Prop := (∀ x ∈ xs, okc x = true ∧ x.cl.length = te.size) ∧ (isU8 te = true → ∀ x ∈ xs, byteOK x)
def putL (cs : List AV) (off : Nat) (ys : List AV) : List AV := cs.take off ++ ys ++ cs.drop (off + ys.length)
def fillA (fs : List (Nat × Nat × Bool)) : List AV → List (Nat × AV) → List AV
  | cs, [] => cs
  | cs, x :: r => fillA fs (putL cs (fs.getD x.1 (0, 0, false)).1 x.2.cl) r
def fillOK (fs : List (Nat × Nat × Bool)) (n : Nat) (ps : List (Nat × AV)) : Prop :=
  ∀ x ∈ ps, x.1 < fs.length ∧ okc x.2 = true ∧ x.2.cl.length = (fs.getD x.1 (0, 0, false)).2.1 ∧ (fs.getD x.1 (0, 0, false)).1 + (fs.getD x.1 (0, 0, false)).2.1 ≤ n ∧ (fs.getD x.1 (0, 0, false)).2.1 ≠ 0
def srcA (H : List (Nat × Blk)) (x : AV) : Option (AV × Prop) := asL H x
def evM (ty : Ty) (H : List (Nat × Blk)) (fr : Nat) (g : Operand → AV) (op : Op) : Option Out :=
  match op with
  | .alloc e =>
    match ty e with
    | some ti => some ⟨.ptr fr 0 0, [(fr, ⟨.li ti.size [zeroA ti], 0, false⟩)], zOK ti = true⟩
    | none => none
  | .box e x =>
    match ty e with
    | some ti => some ⟨.ptr fr 0 0, [(fr, ⟨.li ti.size [stp (g x)], 0, false⟩)], cnd (g x) ∧ okc (stp (g x)) = true ∧ (stp (g x)).cl.length = ti.size ∧ 0 < ti.size⟩
    | none => none
  | .load t a =>
    match ty t, stp (g a) with
    | some ti, .ptr k i off =>
      match lk H k with
      | some b => some ⟨(ldA ti (cAt b.c i) off).1, [], cnd (g a) ∧ b.mode < 3 ∧ i < cN b.c ∧ (ldA ti (cAt b.c i) off).2⟩
      | none => none
    | some ti, .ep x off => some ⟨(ldA ti x off).1, [], cnd (g a) ∧ (ldA ti x off).2⟩
    | _, _ => none
  | .store t a x =>
    match ty t, stp (g a) with
    | some ti, .ptr k i off =>
      match lk H k with
      | some b => some ⟨.any, [(k, ⟨setE b.c i (putX (cAt b.c i) off (stp (g x)).cl), 0, b.ln⟩)], cnd (g a) ∧ cnd (g x) ∧ b.mode = 0 ∧ i < cN b.c ∧ (stp (g x)).cl.length = ti.size ∧ 0 < ti.size ∧
          off + ti.size ≤ cE b.c ∧ okc (stp (g x)) = true ∧ (isBy b.c = true → byteOK (putX (cAt b.c i) off (stp (g x)).cl))⟩
      | none => none
    | _, _ => none
  | .build t parts =>
    match ty t with
    | some ⟨.struct fs, sz, _, zero⟩ => some ⟨.agg (fillA fs (zero.map .lit) (parts.toList.map fun p => (p.1, stp (g p.2)))), [], (∀ p ∈ parts.toList, cnd (g p.2)) ∧ fillOK fs zero.length (parts.toList.map fun p => (p.1, stp (g p.2))) ∧ fs.all (fun x => x.2.1 != 0) = true⟩
    | some ⟨.array n e, sz, _, zero⟩ =>
      match ty e with
      | some te => some ⟨.agg (fillA ((List.range n).map fun i => (i * te.size, te.size, false)) (zero.map .lit) (parts.toList.map fun p => (p.1, stp (g p.2)))), [],
          (∀ p ∈ parts.toList, cnd (g p.2)) ∧ fillOK ((List.range n).map fun i => (i * te.size, te.size, false)) zero.length (parts.toList.map fun p => (p.1, stp (g p.2)))⟩
      | none => none
    | _ => none
  | .buildSlice t len parts =>
    match ty t with
    | some ⟨.slice e, _, _, _⟩ =>
      match ty e with
      | some te => some ⟨.sl fr te.size 0 len, [(fr, ⟨mkC te (parts.toList.map fun p => stp (g p.2)), 0, false⟩)], (∀ p ∈ parts.toList, cnd (g p.2)) ∧ parts.toList.map (·.1) = List.range len ∧ 0 < len ∧ 0 < te.size ∧ len * te.size ≤ 2 ^ 24 ∧
          mkOK te (parts.toList.map fun p => stp (g p.2)) ∧ (isU8 te = true → te.size = 1)⟩
      | none => none
    | _ => none
  | .makeSlice t l c =>
    match ty t, stp (g l), stp (g c) with
    | some ⟨.slice e, _, _, _⟩, .lit (.int _ x), .lit (.int _ y) =>
      match ty e with
      | some te => some ⟨.sl fr te.size 0 x.toNat, [(fr, ⟨mkC te (List.replicate x.toNat (zeroA te)), 0, false⟩)], cnd (g l) ∧ cnd (g c) ∧ 0 ≤ x ∧ x = y ∧ te.bytes * x ≤ 140737488355328 ∧ x ≤ 9223372036854775807 ∧ te.size = 1 ∧ zOK te = true ∧ te.kind.row = false ∧
          (isU8 te = true → te.zero = [.int .u8 0])⟩
      | none => none
    | _, _, _ => none
  | .slice t x none (some h) (some m) =>
    match ty t, stp (g x), idx (stp (g h)), idx (stp (g m)) with
    | some ⟨.slice e, _, _, _⟩, y, some a, some b =>
      match ty e, asL H y with
      | some te, some (_, vc) => some ⟨.sl fr (cE (emptyC te)) 0 0, [(fr, ⟨emptyC te, 0, false⟩)], cnd (g x) ∧ cnd (g h) ∧ cnd (g m) ∧ a = 0 ∧ b = 0 ∧ vc⟩
      | _, _ => none
    | _, _, _, _ => none
  | .call ⟨.builtin .len, args, ats⟩ =>
    match args.toList, ats.toList with
    | [x], [t] =>
      match ty t, stp (g x) with
      | some ⟨.slice _, _, _, _⟩, .by_ bs => some ⟨.lit (.int .i64 bs.length), [], cnd (g x)⟩
      | some ⟨.slice _, _, _, _⟩, .li _ xs => some ⟨.lit (.int .i64 xs.length), [], cnd (g x)⟩
      | some ⟨.slice _, _, _, _⟩, .sl _ _ _ n => some ⟨.lit (.int .i64 n), [], cnd (g x)⟩
      | some ⟨.slice _, _, _, _⟩, .lit (.slice none 0 0) => some ⟨.lit (.int .i64 0), [], cnd (g x)⟩
      | some ⟨.str, _, _, _⟩, .lit (.string s) => some ⟨.lit (.int .i64 s.size), [], cnd (g x)⟩
      | some ⟨.array n _, _, _, _⟩, _ => some ⟨.lit (.int .i64 n), [], True⟩
      | _, _ => none
    | _, _ => none
  | .call ⟨.builtin .min, args, _⟩ =>
    match args.toList with
    | [x, y] =>
      match stp (g x), stp (g y) with
      | .lit (.int k a), .lit (.int _ b) => some ⟨.lit (.int k (if b < a then b else a)), [], cnd (g x) ∧ cnd (g y)⟩
      | _, _ => none
    | _ => none
  | .call ⟨.builtin .max, args, _⟩ =>
    match args.toList with
    | [x, y] =>
      match stp (g x), stp (g y) with
      | .lit (.int k a), .lit (.int _ b) => some ⟨.lit (.int k (if a < b then b else a)), [], cnd (g x) ∧ cnd (g y)⟩
      | _, _ => none
    | _ => none
  | .call ⟨.builtin .append, args, ats⟩ =>
    match args.toList, ats.toList with
    | [s, x], [t, u] =>
      match ty t, ty u, asL H (stp (g x)) with
      | some ⟨.slice e, _, _, _⟩, some ⟨.slice _, _, _, _⟩, some (c, vc) =>
        match ty e, stp (g s) with
        | some te, .lit (.slice none 0 0) =>
          some ⟨.sl fr te.size 0 (cN c), [(fr, ⟨catC (emptyC te) c, 0, false⟩)], cnd (g s) ∧ cnd (g x) ∧ vc ∧ okL c ∧ catOK (emptyC te) c ∧ (cN c = 0 ∨ cE c = te.size) ∧ cN c * te.bytes ≤ 140737488355328 ∧ cN c ≤ maxLen ∧ cE (emptyC te) = te.size ∧ zOK te = true⟩
        | some te, .sl k es i n =>
          match lk H k with
          | some b => some ⟨.sl fr es 0 (n + cN c), [(fr, ⟨catC b.c c, 0, false⟩), (k, ⟨b.c, 3, false⟩)], cnd (g s) ∧ cnd (g x) ∧ vc ∧ okL c ∧ catOK b.c c ∧ (cN c = 0 ∨ cE c = te.size) ∧ (n + cN c) * te.bytes ≤ 140737488355328 ∧ n + cN c ≤ maxLen ∧
              i = 0 ∧ n = cN b.c ∧ b.mode = 0 ∧ b.ln = false ∧ es = te.size ∧ zOK te = true⟩
          | none => none
        | _, _ => none
      | _, _, _ => none
    | _, _ => none
  | .call ⟨.builtin .copy, args, ats⟩ =>
    match args.toList, ats.toList with
    | [s, x], [t, u] =>
      match ty t, ty u, asL H (stp (g x)), stp (g s) with
      | some ⟨.slice e, _, _, _⟩, some ⟨.slice _, _, _, _⟩, some (c, vc), .sl k es i n =>
        match ty e, lk H k with
        | some te, some b => some ⟨.lit (.int .i64 (min (cN c) n : Nat)), [(k, ⟨cpA b.c i c (min (cN c) n), 0, b.ln⟩)], cnd (g s) ∧ cnd (g x) ∧ vc ∧ okL c ∧ cpOK b.c c ∧ cE c = te.size ∧ es = te.size ∧ 0 < te.size ∧ i + n ≤ cN b.c ∧ b.mode = 0⟩
        | _, _ => none
      | _, _, _, _ => none
    | _, _ => none
  | _ => none
end Go.TravelAbs
