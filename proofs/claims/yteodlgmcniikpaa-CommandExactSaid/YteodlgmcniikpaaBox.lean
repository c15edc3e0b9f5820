import Derived.Test.YteodlgmcniikpaaBase
import Derived.BigRegion
import Derived.Handy
import Derived.Laws.Rows
import Derived.Deep.MidRow
namespace Go.TravelBase
open Go.RowKit
set_option linter.unusedVariables false
set_option linter.unusedSimpArgs false

/-! ## A block that is known whole -/
/-- Block b of the world holds just these cells. -/
def Bx (w : World) (b : Nat) (cs : List Value) : Prop := ∃ T, w.heap[b]? = some (.cells cs.toArray T)
section
variable {w w' : World} {b : Nat} {cs : List Value}
theorem Bx.lt (h : Bx w b cs) : b < w.heap.size := by
  obtain ⟨T, h⟩ := h
  rcases Nat.lt_or_ge b w.heap.size with hlt | hge
  · exact hlt
  · rw [Array.getElem?_eq_none hge] at h; cases h
theorem Bx.cell (h : Bx w b cs) (j : Nat) {u : Value} (hj : cs[j]? = some u) : w.cell? ⟨b, j, none⟩ = some u := by
  obtain ⟨T, h⟩ := h
  simp [World.cell?, h, hj]
theorem Bx.free (h : Bx w b cs) (j : Nat) : w.frozen? ⟨b, j, none⟩ = false := by
  obtain ⟨T, h⟩ := h
  simp [World.frozen?, h]
theorem Bx.belowAt (h : Bx w b cs) {B : Nat} (hb : Below B w w') (hlt : b < B) : Bx w' b cs := by
  obtain ⟨T, h⟩ := h
  exact ⟨T, by rw [hb.block b hlt]; exact h⟩
theorem Bx.below (h : Bx w b cs) (hb : Below w.heap.size w w') : Bx w' b cs := h.belowAt hb h.lt
theorem Bx.drew (h : Bx w b cs) : Bx w.drew b cs := h
theorem Bx.drewN (h : Bx w b cs) (n : Nat) : Bx (w.drewN n) b cs := h
theorem Bx.alloc (h : Bx w b cs) (o : Obj) : Bx (w.alloc o) b cs := h.below ((Below.refl _ _).alloc (Nat.le_refl _) o)
theorem Bx.mk (w : World) (cs : List Value) (T : TypeId) : Bx (w.alloc (.cells cs.toArray T)) w.heap.size cs := ⟨T, by show (w.heap.push _)[_]? = _; exact Array.getElem?_push_size⟩
theorem Bx.mk' (w : World) (cs : Array Value) (T : TypeId) : Bx (w.alloc (.cells cs T)) w.heap.size cs.toList := ⟨T, by show (w.heap.push _)[_]? = _; rw [Array.getElem?_push_size]⟩
theorem Bx.far (h : Bx w b cs) {a : Addr} (hne : b ≠ a.block) (u : Value) : Bx (w.setCell a u) b cs := by
  obtain ⟨T, h⟩ := h
  exact ⟨T, by rw [Below.heap_setCell w a u b hne]; exact h⟩
theorem Bx.set (h : Bx w b cs) (j : Nat) (u : Value) : Bx (w.setCell ⟨b, j, none⟩ u) b (cs.set j u) := by
  obtain ⟨T, h⟩ := h
  refine ⟨T, ?_⟩
  unfold World.setCell
  obtain ⟨hlt, he⟩ := Array.getElem?_eq_some_iff.1 h
  simp [hlt, Array.getElem_modify, he]
theorem ap_setCell {w : World} {base : Nat} {e : TypeId} {A : Option Addr} {n c : Nat} {xs : List Value} (h : Ap w base e A n c xs) {a : Addr} (ha : a.block < base) (u : Value) : Ap (w.setCell a u) base e A n c xs := by
  rcases h with h | h
  · exact .inl (ownsRow_setCell_below h ha u)
  · exact .inr h
end
/-- The cells of a slice of bytes. -/
theorem Rd.cellsB {w : World} {A : Option Addr} {n c : Nat} {b : List UInt8} (h : Rd w A n c (bvs b)) (hn : 0 < n) : ∃ g off, A = some ⟨g, off, none⟩ ∧ g < w.heap.size ∧ ∀ j, j < n → w.cell? ⟨g, off + j, none⟩ = some (.int .u8 (atS b j : Int)) := by
  obtain ⟨g, off, e, hlt, hc⟩ := h.at_ hn
  have hl := h.len
  rw [length_bvs] at hl
  refine ⟨g, off, e, hlt, fun j hj => hc j _ ?_⟩
  have : b[j]? = some b[j] := List.getElem?_eq_getElem (by omega)
  rw [bvs_get this]
  simp [bv, atS, this]
theorem undrew {B : Nat} {w w' : World} (h : Below B w.drew w') : Below B w w' := ⟨h.os, h.tape, h.output, h.size, h.block⟩
/-- Two blocks that were laid one after the other, behind a call. -/
theorem twoBx {w w' : World} {c1 c2 : Array Value} {T1 T2 : TypeId} {B : Nat} (h : Below B ((w.alloc (.cells c1 T1)).alloc (.cells c2 T2)) w') (hB : w.heap.size + 2 ≤ B) :
    Bx w' w.heap.size c1.toList ∧ Bx w' (w.heap.size + 1) c2.toList ∧ Below w.heap.size w w' ∧ w.heap.size + 2 ≤ w'.heap.size := by
  have e : (w.alloc (.cells c1 T1)).heap.size = w.heap.size + 1 := by simp
  have h2 := Bx.mk' (w.alloc (.cells c1 T1)) c2 T2
  rw [e] at h2
  refine ⟨((Bx.mk' w c1 T1).alloc _).belowAt h (by omega), h2.belowAt h (by omega), (((Below.refl _ _).alloc (Nat.le_refl _) _).alloc (by simp) _).trans (h.mono (by omega)), ?_⟩
  have := h.size
  simpa using this

/-- Six stores into the second of two blocks. -/
theorem set6 {w w1 : World} {c1 : List Value} {o0 o1 o2 o3 o4 o5 : Value} (X1 : Bx w1 w.heap.size c1) (X2 : Bx w1 (w.heap.size + 1) [o0, o1, o2, o3, o4, o5]) (hB : Below w.heap.size w w1) (hsz : w.heap.size + 2 ≤ w1.heap.size) (v0 v1 v2 v3 v4 v5 : Value) :
    let w9 := (((((w1.setCell ⟨w.heap.size + 1, 0, none⟩ v0).setCell ⟨w.heap.size + 1, 1, none⟩ v1).setCell ⟨w.heap.size + 1, 2, none⟩ v2).setCell ⟨w.heap.size + 1, 3, none⟩ v3).setCell ⟨w.heap.size + 1, 4, none⟩ v4).setCell ⟨w.heap.size + 1, 5, none⟩ v5
    Bx w9 w.heap.size c1 ∧ Bx w9 (w.heap.size + 1) [v0, v1, v2, v3, v4, v5] ∧ Below w.heap.size w w9 ∧ w.heap.size + 2 ≤ w9.heap.size :=
  ⟨(((((X1.far (by simp) _).far (by simp) _).far (by simp) _).far (by simp) _).far (by simp) _).far (by simp) _,
    (((((X2.set 0 v0).set 1 v1).set 2 v2).set 3 v3).set 4 v4).set 5 v5,
    (((((hB.setCell (by simp) _).setCell (by simp) _).setCell (by simp) _).setCell (by simp) _).setCell (by simp) _).setCell (by simp) _, by simpa using hsz⟩
/-! ## Loads and stores of a whole block -/
theorem Bx.grown {w w' : World} {b : Nat} {cs : List Value} (h : Bx w b cs) {row : Option Nat} (hg : w.grownBy w' row) (hne : some b ≠ row) : Bx w' b cs := by
  have hlt := h.lt
  obtain ⟨T, hT⟩ := h
  exact ⟨T, by rw [hg.block b hlt hne]; exact hT⟩
theorem grown_size {w w' : World} {row : Option Nat} (hg : w.grownBy w' row) : w.heap.size ≤ w'.heap.size := hg.size
theorem Bx.far' {w w' : World} {b g : Nat} {cs : List Value} (h : Bx w b cs) (hg : w.grownBy w' (some g)) (hne : b ≠ g) : Bx w' b cs := h.grown hg (by simpa using hne)
theorem Bx.kept {w w' : World} {b : Nat} {cs : List Value} (h : Bx w b cs) {base : Nat} {e : TypeId} {A : Option Addr} {n c : Nat} {xs : List Value} (hk : Kept w base e A n c xs w') (hb : b < base) : Bx w' b cs := by
  rcases hk with hg | ⟨hg, ho⟩
  · exact h.grown hg (by simp)
  · refine h.grown hg fun e1 => ?_
    have := (ho.lt b e1.symm).1
    omega
theorem ap_grown {w w' : World} {base : Nat} {e : TypeId} {A : Option Addr} {n c : Nat} {xs : List Value} (h : Ap w base e A n c xs) {g : Nat} (hg : w.grownBy w' (some g)) (hb : g < base) : Ap w' base e A n c xs := by
  rcases h with h | h
  · refine .inl (h.kept hg ?_)
    cases ho : (Value.slice A n c).ownBlock with
    | none => exact .inl rfl
    | some k =>
      right
      have := (h.lt k ho).1
      intro e1
      injection e1 with e1
      omega
  · exact .inr h
section
variable {P : Program} {ops : Array Oper} {rest : List Oper} {a : Act} {w : World} {Q : Exit → Act → World → Prop} {dst : Option Tmp} {T ty0 : TypeId} {p v : Tmp} {pos : String} {after : Array Edge}
/-- To see cheaply that a store to slot p (a load from it) stands next. -/
theorem at_store (p : Tmp) {y : Operand} {gd : Option (Nat × Bool)} (h : wpList P ops Q (⟨dst, .store T (.tmp p) y, ty0, pos, after, gd⟩ :: rest) a w) : wpList P ops Q (⟨dst, .store T (.tmp p) y, ty0, pos, after, gd⟩ :: rest) a w := h
theorem at_load (p : Tmp) {gd : Option (Nat × Bool)} (h : wpList P ops Q (⟨dst, .load T (.tmp p), ty0, pos, after, gd⟩ :: rest) a w) : wpList P ops Q (⟨dst, .load T (.tmp p), ty0, pos, after, gd⟩ :: rest) a w := h
theorem wpList_load_bx (g : Nat) (cs : List Value) (fs : Array Field) (k : Nat) (hX : Bx w g cs) (hp : a.eval (.tmp p) = .pointer (some ⟨g, 0, none⟩)) (hu : P.underlying T = some (.struct fs)) (hi : (P.info? T).map (·.size) = some k) (hk : cs.length = k)
    (h : wpList P ops Q rest (a.put dst (.agg cs.toArray)) w) : wpList P ops Q (⟨dst, .load T (.tmp p), ty0, pos, after, none⟩ :: rest) a w := by
  obtain ⟨T', hT⟩ := hX
  subst hk
  exact wpList_load_row rfl T (.tmp p) rfl g hp T' cs.toArray (0, 0) _ hT hu rfl (by simpa using hi) h
theorem setCells_block (b : Nat) : ∀ (vs : List Value) (o : Nat) (w : World), ∀ k, k ≠ b → (w.setCells b o vs).heap[k]? = w.heap[k]?
  | [], _, _, _, _ => rfl
  | u :: vs, o, w, k, hk => by
    show ((w.setCell ⟨b, o, none⟩ u).setCells b (o + 1) vs).heap[k]? = _
    rw [setCells_block b vs (o + 1) _ k hk, Below.heap_setCell w ⟨b, o, none⟩ u k hk]
theorem setCells_grown (b : Nat) : ∀ (vs : List Value) (o : Nat) (w : World), w.grownBy (w.setCells b o vs) (some b)
  | [], _, w => World.grownBy.refl w _
  | u :: vs, o, w => by
    have h := setCells_grown b vs (o + 1) (w.setCell ⟨b, o, none⟩ u)
    have hs : (w.setCell ⟨b, o, none⟩ u).heap.size = w.heap.size := by simp
    refine ⟨h.os, h.tape, h.output, by rw [← hs]; exact h.size, fun k hk hne => ?_⟩
    show ((w.setCell ⟨b, o, none⟩ u).setCells b (o + 1) vs).heap[k]? = _
    rw [h.block k (by rw [hs]; exact hk) hne, Below.heap_setCell w ⟨b, o, none⟩ u k (by simpa using hne)]
theorem setCells_bx (b : Nat) : ∀ (vs : List Value) (pre old : List Value) (w : World), old.length = vs.length → Bx w b (pre ++ old) → Bx (w.setCells b pre.length vs) b (pre ++ vs)
  | [], pre, old, w, hl, h => by
    have : old = [] := List.eq_nil_of_length_eq_zero hl
    subst this
    exact h
  | u :: vs, pre, x :: old, w, hl, h => by
    have h1 := h.set pre.length u
    have e : (pre ++ x :: old).set pre.length u = (pre ++ [u]) ++ old := by simp [List.set_append]
    rw [e] at h1
    have h2 := setCells_bx b vs (pre ++ [u]) old _ (by simpa using hl) h1
    have e2 : (pre ++ [u]).length = pre.length + 1 := by simp
    rw [e2] at h2
    have e3 : pre ++ [u] ++ vs = pre ++ u :: vs := by simp
    rw [e3] at h2
    exact h2
theorem wpList_store_bx (g : Nat) (cs : List Value) (cells : Array Value) (hX : Bx w g cs) (hp : a.eval (.tmp p) = .pointer (some ⟨g, 0, none⟩)) (hv : a.eval (.tmp v) = .agg cells) (k : Nat) (hi : (P.info? T).map (·.size) = some k)
    (hl : cs.length = k) (hk : cells.size = k) (h1 : cells.toList.all (·.oneCell') = true) (h : ∀ w', Bx w' g cells.toList → w.grownBy w' (some g) → wpList P ops Q rest (a.put dst undef) w') : wpList P ops Q (⟨dst, .store T (.tmp p) (.tmp v), ty0, pos, after, none⟩ :: rest) a w := by
  subst hk
  refine wpList_store_mid rfl T (.tmp p) (.tmp v) rfl g 0 cells hp hv (fun j hj => ?_) hi (by rw [← Array.all_toList]; exact h1) ?_
  · rw [Nat.zero_add]
    exact ⟨by rw [hX.cell j (List.getElem?_eq_getElem (by omega))]; rfl, hX.free j⟩
  · have hb := setCells_bx g cells.toList [] cs w (by simpa using hl) hX
    exact h _ hb (setCells_grown g cells.toList 0 w)
/-- A store of a whole block, as a step of a region that draws its order. -/
theorem step_store_bx {E : Prop} {K : Act → World → Prop} {o : Oper} (hgd : o.guard = none) (p v : Tmp) (T : TypeId) (hop : o.op = .store T (.tmp p) (.tmp v)) (g : Nat) (cs : List Value) (cells : Array Value) (hX : Bx w g cs) (hp : a.eval (.tmp p) = .pointer (some ⟨g, 0, none⟩)) (hv : a.eval (.tmp v) = .agg cells) (k : Nat) (hi : (P.info? T).map (·.size) = some k)
    (hl : cs.length = k) (hk : cells.size = k) (h1 : cells.toList.all (·.oneCell') = true) (h : ∀ w', Bx w' g cells.toList → w.grownBy w' (some g) → K (a.put o.dst undef) w') :
    if Region.wanted o (yielded ops a.tmps) = true then Oper.wp P o a w K Q else E := by
  have hw : Region.wanted o (yielded ops a.tmps) = true := by simp [Region.wanted, hgd]
  rw [if_pos hw]
  subst hk
  refine wp_store_mid T (.tmp p) (.tmp v) hop g 0 cells hp hv (fun j hj => ?_) hi (by rw [← Array.all_toList]; exact h1) ?_
  · rw [Nat.zero_add]
    exact ⟨by rw [hX.cell j (List.getElem?_eq_getElem (by omega))]; rfl, hX.free j⟩
  · have hb := setCells_bx g cells.toList [] cs w (by simpa using hl) hX
    exact h _ hb (setCells_grown g cells.toList 0 w)
end
end Go.TravelBase
