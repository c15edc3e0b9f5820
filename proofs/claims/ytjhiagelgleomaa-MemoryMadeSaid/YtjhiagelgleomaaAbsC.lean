import Derived.Test.YtjhiagelgleomaaAbsB
namespace Go.TravelAbs
open Go.RowKit Go.TravelBase
set_option linter.unusedVariables false
set_option linter.unusedSimpArgs false

section
variable {P : Program} {ty : Ty} {w : World} {S : CSet} {m : RMap}
theorem VR.lit_inv {v u : Value} (h : VR w S m (.lit v) u) : u = v := by cases h; rfl
theorem VR.to_lit {v u : Value} (h : VR w S m (.lit v) u) (k : VR w S m (.lit v) u) : u = v := h.lit_inv
theorem getD_of_lt {α : Type} {l : List α} {i : Nat} {d : α} (h : i < l.length) : l[i]? = some (l.getD i d) := by
  simp [List.getD, List.getElem?_eq_getElem h]
theorem bopI_ok {op : BinOp} {k : IntKind} {x y : Int} (h1 : op ≠ .shl) (h2 : op ≠ .shr) (hvc : (bopI op k x y).2) (t : TypeId) : ∃ v, (bopI op k x y).1 = .lit v ∧ (binOp op t (.int k x) (.int k y)).run P w = .ok v w := by
  cases op
  case shl => exact absurd rfl h1
  case shr => exact absurd rfl h2
  case add => exact ⟨_, rfl, by simp [binOp, Op.intArith]; exact hvc⟩
  case sub => exact ⟨_, rfl, by simp [binOp, Op.intArith]; exact hvc⟩
  case mul => exact ⟨_, rfl, by simp [binOp, Op.intArith]; exact hvc⟩
  case quo => exact ⟨_, rfl, by have h : inR k (x.tdiv y) := hvc.2; simp [binOp, Op.intDiv, hvc.1]; exact h⟩
  case rem => exact ⟨_, rfl, by have h : y ≠ 0 := hvc; simp [binOp, Op.intDiv, h]⟩
  case and => exact ⟨_, rfl, by simp [binOp, Op.intBits, bits]⟩
  case or => exact ⟨_, rfl, by simp [binOp, Op.intBits, bits]⟩
  case xor => exact ⟨_, rfl, by simp [binOp, Op.intBits, bits]⟩
  case andNot => exact ⟨_, rfl, by simp [binOp, Op.intBits, bits]⟩
  all_goals exact ⟨_, rfl, by simp [binOp, Op.intCmp, cmpI]⟩
theorem bopW_ok {op : BinOp} {k : IntKind} {x y : Int} (h1 : op ≠ .shl) (h2 : op ≠ .shr) (hvc : (bopW op k x y).2) (t : TypeId) : ∃ v, (bopW op k x y).1 = .lit v ∧ (binOp op t (.int k x) (.int k y)).run P w = .ok v w := by
  cases op
  case add => exact ⟨_, rfl, by simp [binOp, Op.intArith]⟩
  case sub => exact ⟨_, rfl, by simp [binOp, Op.intArith]⟩
  case mul => exact ⟨_, rfl, by simp [binOp, Op.intArith]⟩
  all_goals exact bopI_ok h1 h2 hvc t
theorem run_equal_bool {t : TypeId} (hu : P.underlying t = some .bool) (p q : Bool) : (Op.equal t (.bool p) (.bool q)).run P w = .ok (p == q) w := by
  unfold Op.equal
  rw [show Op.maxDepth = 9999 + 1 from rfl]
  unfold Op.equalIn
  simp [run_underlying hu]
theorem run_bool_eql {t : TypeId} (hu : P.underlying t = some .bool) (p q : Bool) : (binOp .eql t (.bool p) (.bool q)).run P w = .ok (.bool (p == q)) w := by
  show ((do pure (.bool (← Op.equal t (.bool p) (.bool q))) : Sem Value)).run P w = _
  simp only [Sem.run_bind, run_equal_bool hu]
  rfl
theorem run_bool_neq {t : TypeId} (hu : P.underlying t = some .bool) (p q : Bool) : (binOp .neq t (.bool p) (.bool q)).run P w = .ok (.bool (!(p == q))) w := by
  show ((do pure (.bool (!(← Op.equal t (.bool p) (.bool q)))) : Sem Value)).run P w = _
  simp only [Sem.run_bind, run_equal_bool hu]
  rfl
theorem bop_ok (hT : TysOK P ty) {t : TypeId} {op : BinOp} {a b : AV} {va vb : Value} {x : AV} {vc : Prop} (ha : VR w S m a va) (hb : VR w S m b vb) (h : bop ty t op a b = some (x, vc)) (hvc : vc) (p q : Operand) :
    ∃ v, x = .lit v ∧ (do eqGuard op t p q va vb; binOp op t va vb : Sem Value).run P w = .ok v w := by
  unfold bop at h
  split at h
  · obtain rfl := ha.lit_inv
    obtain rfl := hb.lit_inv
    rename_i k x1 k' y1
    have hG : (eqGuard op t p q (.int k x1) (.int k' y1)).run P w = .ok () w := by
      cases op <;> simp [eqGuard]
    split at h
    · injection h with h
      simp only [Prod.mk.injEq] at h
      obtain ⟨rfl, rfl⟩ := h
      have h0 : ¬ y1 < 0 := by omega
      exact ⟨_, rfl, by simp [hG]; simp [binOp, Op.shift, h0]⟩
    · injection h with h
      simp only [Prod.mk.injEq] at h
      obtain ⟨rfl, rfl⟩ := h
      have h0 : ¬ y1 < 0 := by omega
      exact ⟨_, rfl, by simp [hG]; simp [binOp, Op.shift, h0]⟩
    · rename_i hn1 hn2
      split at h
      · rename_i hk
        subst hk
        injection h with h
        cases hone : isOne (ty t)
        · rw [hone, cond_false] at h
          obtain ⟨v, h1, h2⟩ := bopI_ok (P := P) (w := w) (op := op) (k := k) (x := x1) (y := y1) hn1 hn2 (by rw [h]; exact hvc) t
          refine ⟨v, ?_, by simp [hG]; exact h2⟩
          rw [h] at h1
          exact h1
        · rw [hone, cond_true] at h
          obtain ⟨v, h1, h2⟩ := bopW_ok (P := P) (w := w) (op := op) (k := k) (x := x1) (y := y1) hn1 hn2 (by rw [h]; exact hvc) t
          refine ⟨v, ?_, by simp [hG]; exact h2⟩
          rw [h] at h1
          exact h1
      · cases h
  · obtain rfl := ha.lit_inv
    obtain rfl := hb.lit_inv
    rename_i p1 q1
    split at h
    · rename_i z1 z2 z3 hty
      injection h with h
      simp only [Prod.mk.injEq] at h
      obtain ⟨rfl, rfl⟩ := h
      obtain ⟨i, d, z, _, hu, _, _, _, _, hk⟩ := (hT _ _ hty).ok
      simp only [KOK] at hk
      subst hk
      exact ⟨_, rfl, by simp only [Sem.run_bind, eqGuard]; simp; exact run_bool_eql hu _ _⟩
    · rename_i z1 z2 z3 hty
      injection h with h
      simp only [Prod.mk.injEq] at h
      obtain ⟨rfl, rfl⟩ := h
      obtain ⟨i, d, z, _, hu, _, _, _, _, hk⟩ := (hT _ _ hty).ok
      simp only [KOK] at hk
      subst hk
      exact ⟨_, rfl, by simp only [Sem.run_bind, eqGuard]; simp; exact run_bool_neq hu _ _⟩
    · cases h
  · obtain rfl := ha.lit_inv
    obtain rfl := hb.lit_inv
    rename_i s1 t1
    simp only [Option.map_eq_some_iff, Prod.mk.injEq] at h
    obtain ⟨y, hy, rfl, rfl⟩ := h
    unfold bopS at hy
    split at hy
    · injection hy with hy
      exact ⟨_, hy.symm, by simp [eqGuard, binOp, Op.stringOp]⟩
    · injection hy with hy
      exact ⟨_, hy.symm, by simp [eqGuard, binOp, Op.stringOp]⟩
    · cases hy
  · cases h
theorem pickA_ok {p : Bool} {a b : AV} {va vb : Value} (ha : p = true → VR w S m (stp a) va) (hb : p = false → VR w S m (stp b) vb) : VR w S m (pickA p a b) (if p = true then va else vb) := by
  unfold pickA
  cases p with
  | true =>
    have h := ha rfl
    simp only [if_true]
    split
    · rename_i e1 e2
      rw [e1] at h
      exact h
    · exact h
  | false =>
    have h := hb rfl
    simp only [Bool.false_eq_true, if_false]
    split
    · rename_i e1 e2
      rw [e2] at h
      exact h
    · exact h
theorem add_mid (b o j : Nat) : (⟨b, o, none⟩ : Addr).add j = ⟨b, o + j, none⟩ := add_plain b o j
theorem VR.tup_inv {xs : List AV} {u : Value} (h : VR w S m (.tup xs) u) : ∃ cs, u = .tuple cs ∧ cs.size = xs.length ∧ ∀ (j : Nat) (x : AV) (u : Value), xs[j]? = some x → cs[j]? = some u → VR w S m x u := by
  cases h with
  | tup hl h => exact ⟨_, rfl, hl, h⟩
theorem VR.agg_inv {xs : List AV} {u : Value} (h : VR w S m (.agg xs) u) : ∃ cs, u = .agg cs ∧ cs.size = xs.length ∧ ∀ (j : Nat) (x : AV) (u : Value), xs[j]? = some x → cs[j]? = some u → VR w S m x u := by
  cases h with
  | agg hl h => exact ⟨_, rfl, hl, h⟩
theorem fieldsB_at {fields : Array Field} {fs : List (Nat × Nat × Bool)} (h : fieldsB P fields = fs) {f : Nat} (hf : f < fs.length) :
    ∃ F, fields[f]? = some F ∧ fs[f]? = some (F.offset, fsz P F.type, rowB (P.underlying F.type)) := by
  subst h
  simp only [fieldsB, List.length_map] at hf
  have hf' : f < fields.size := by simpa using hf
  refine ⟨fields[f], Array.getElem?_eq_getElem hf', ?_⟩
  simp [fieldsB, hf']
theorem size_of_getD {t : TypeId} (h : fsz P t ≠ 0) : (∃ i, P.info? t = some i ∧ i.size = fsz P t) ∧ ∃ d, P.underlying t = some d := by
  unfold fsz at h ⊢
  cases hu : P.underlying t with
  | none => rw [hu] at h; simp at h
  | some d =>
    cases hi : P.info? t with
    | none => rw [hi] at h; simp at h
    | some i => exact ⟨⟨i, rfl, by simp⟩, d, rfl⟩
theorem run_fieldAt_ok {t : TypeId} {fields : Array Field} {F : Field} {f : Nat} {a : Addr} (hu : P.underlying t = some (.struct fields)) (hF : fields[f]? = some F) (hs : fsz P F.type ≠ 0) :
    (Instr.fieldAt t (.pointer (some a)) f).run P w = .ok (.pointer (some (a.add F.offset))) w := by
  obtain ⟨⟨i, hi, hsz⟩, _⟩ := size_of_getD hs
  have h0 : i.size ≠ 0 := by omega
  simp [Instr.fieldAt, run_underlying hu, hF, Instr.sureAddr, fieldPlace, sizeOf, typeInfo, hi, h0]
theorem run_sizeOf_ok {t : TypeId} {ti : TI} (h : TyOK P t ti) : (sizeOf t).run P w = .ok ti.size w := by
  obtain ⟨i, d, z, hi, _, hs, _⟩ := h.ok
  simp [sizeOf, typeInfo, hi, hs]
theorem und_slice {t e : TypeId} {s b : Nat} {z : List Value} (h : TyOK P t ⟨.slice e, s, b, z⟩) : P.underlying t = some (.slice e) := by
  obtain ⟨i, d, z, _, hu, _, _, _, _, hk⟩ := h.ok
  simp only [KOK] at hk
  subst hk
  exact hu
theorem und_array {t e n : TypeId} {s b : Nat} {z : List Value} (h : TyOK P t ⟨.array n e, s, b, z⟩) : P.underlying t = some (.array n e) := by
  obtain ⟨i, d, z, _, hu, _, _, _, _, hk⟩ := h.ok
  simp only [KOK] at hk
  subst hk
  exact hu
theorem und_struct {t : TypeId} {fs : List (Nat × Nat × Bool)} {s b : Nat} {z : List Value} (h : TyOK P t ⟨.struct fs, s, b, z⟩) : ∃ fields, P.underlying t = some (.struct fields) ∧ fieldsB P fields = fs := by
  obtain ⟨i, d, z, _, hu, _, _, _, _, fields, rfl, hk⟩ := h.ok
  exact ⟨fields, hu, hk⟩
theorem run_indexAt_slice {t e : TypeId} {te : TI} (ht : P.underlying t = some (.slice e)) (he : TyOK P e te) (a : Addr) (n c : Nat) (k : IntKind) (z : Int) (h0 : 0 ≤ z) (h1 : z < n) :
    (Instr.indexAt t (.slice (some a) n c) (.int k z)).run P w = .ok (.pointer (some (a.add (z.toNat * te.size)))) w := by
  simp [Instr.indexAt, asIntOf, run_underlying ht, h0, h1, run_sizeOf_ok he]
theorem run_indexAt_array {t e : TypeId} {te : TI} {n : Nat} (ht : P.underlying t = some (.array n e)) (he : TyOK P e te) (a : Addr) (k : IntKind) (z : Int) (h0 : 0 ≤ z) (h1 : z < n) :
    (Instr.indexAt t (.pointer (some a)) (.int k z)).run P w = .ok (.pointer (some (a.add (z.toNat * te.size)))) w := by
  simp [Instr.indexAt, asIntOf, run_underlying ht, Instr.sureAddr, h0, h1, run_sizeOf_ok he]
theorem idx_inv {x : AV} {z : Int} {v : Value} (hv : VR w S m x v) (h : idx x = some z) : ∃ k, v = .int k z := by
  unfold idx at h
  split at h
  · injection h with h
    subst h
    obtain rfl := hv.lit_inv
    exact ⟨_, rfl⟩
  · cases h
theorem Lies.at_ {A : Option Addr} {k : Nat} {us : Nat → Value} (h : Lies w S A k us) (hk : 0 < k) : ∃ b off, A = some ⟨b, off, none⟩ ∧ ∀ i, i < k → S b (off + i) ∧ w.cell? ⟨b, off + i, none⟩ = some (us i) := by
  rcases h with h | h
  · omega
  · exact h
theorem ep_by {bs : List UInt8} {u : Value} (h : VR w S m (.by_ bs) u) {i : Nat} (hi : i < bs.length) :
    ∃ b off c, u = .slice (some ⟨b, off, none⟩) bs.length c ∧ VR w S m (.ep (cAt (.by_ bs) i) 0) (.pointer (some ⟨b, off + i, none⟩)) := by
  cases h with
  | by_ hn hc hm h0 hA =>
    obtain ⟨b, off, rfl, h1⟩ := hA.at_ (by omega)
    subst hn
    refine ⟨b, off, _, rfl, ?_⟩
    have := VR.ep (w := w) (S := S) (m := m) (x := cAt (.by_ bs) i) (off := 0) (b := b) (o := off + i) (fun _ => .int .u8 ((bs.getD i 0).toNat : Int)) (fun j hj => ?_) (fun j y hy => ?_)
    · simpa using this
    · simp only [cAt, bA, AV.cl, List.length_cons, List.length_nil] at hj
      obtain rfl : j = 0 := by omega
      exact h1 i hi
    · simp only [cAt, bA, AV.cl] at hy
      match j, hy with
      | 0, hy =>
        simp at hy
        subst hy
        exact .lit _
theorem ep_li {es : Nat} {xs : List AV} {u : Value} (h : VR w S m (.li es xs) u) {i : Nat} (hi : i < xs.length) (hes : es ≠ 0) :
    ∃ b off c, u = .slice (some ⟨b, off, none⟩) xs.length c ∧ VR w S m (.ep (cAt (.li es xs) i) 0) (.pointer (some ⟨b, off + i * es, none⟩)) := by
  cases h with
  | li us hn hc hm h0 hes0 he hA h =>
    subst hn
    have hpos : 0 < xs.length * es := Nat.mul_pos (by omega) (by omega)
    obtain ⟨b, off, rfl, h1⟩ := hA.at_ hpos
    refine ⟨b, off, _, rfl, ?_⟩
    have hx : xs[i]? = some (cAt (.li es xs) i) := getD_of_lt hi
    have hl : (cAt (.li es xs) i).cl.length = es := he _ (List.mem_of_getElem? hx)
    have := VR.ep (w := w) (S := S) (m := m) (x := cAt (.li es xs) i) (off := 0) (b := b) (o := off + i * es) (fun j => us (i * es + j)) (fun j hj => ?_) (fun j y hy => h i j _ y hx hy)
    · simpa using this
    · rw [hl] at hj
      have := h1 (i * es + j) (row_mul hi hj)
      rw [Nat.add_assoc]
      exact this
end
end Go.TravelAbs
