import Derived.Test.YtgmmdijmlnehlaaDoorOpenD
import Derived.SizedLaws
namespace Go.Proofs.YtgmmdijmlnehlaaDoor
open Go.ChangeShapes Go.WideShapes Go.ChangeAt Go.RowKit Go.TravelBase Go.Deep Go.TravelAbs
set_option linter.unusedVariables false
set_option linter.unusedSimpArgs false
/-! ### What comes in, by its type, as a tree; no slice and no string longer than reachBytes -/
section
variable {H : Type} {enc : TypeId × Value → H} {P : Program} {W : World}
def LtW (P : Program) (t : TypeId) (d : DataW H) : Prop := ∀ n ∈ d.weights P t, n ≤ reachBytes
theorem weights_mem_all {e : TypeId} : ∀ {l : List (DataW H)} {j : Nat} {d : DataW H}, l[j]? = some d → ∀ n ∈ d.weights P e, n ∈ DataW.weightsAll P e l
  | x :: l, 0, d, hd, n, hn => by
    simp only [List.getElem?_cons_zero, Option.some.injEq] at hd
    subst hd
    simp only [DataW.weightsAll, List.mem_append]
    exact .inl hn
  | x :: l, j + 1, d, hd, n, hn => by
    simp only [List.getElem?_cons_succ] at hd
    simp only [DataW.weightsAll, List.mem_append]
    exact .inr (weights_mem_all hd n hn)
  | [], _, _, hd, _, _ => by simp at hd
def OpnSz (enc : TypeId × Value → H) (P : Program) (W : World) (fuel : Nat) (t : TypeId) (Φ : AV → Prop) : Prop :=
  ∀ (cs : List Value) (y : DataW H × List MemPlace), DataW.trod enc P W 0 (fun _ => true) true fuel t cs = some y → LtW P t y.1 → ∃ x : AV, Φ x ∧ CellsR W x cs
theorem OpnSz.mono {fuel : Nat} {t : TypeId} {Φ Ψ : AV → Prop} (h : OpnSz enc P W fuel t Φ) (hm : ∀ x, Φ x → Ψ x) : OpnSz enc P W fuel t Ψ := fun cs y hy hw => by
  obtain ⟨x, h1, h2⟩ := h cs y hy hw
  exact ⟨x, hm x h1, h2⟩
theorem OpnAt.sz {fuel : Nat} {t : TypeId} {Φ : AV → Prop} (h : OpnAt enc P W fuel t Φ) : OpnSz enc P W fuel t Φ := fun cs y hy _ => h cs y hy
theorem OpnSz.str {fuel : Nat} {t : TypeId} (ht : P.underlying t = some .string) : OpnSz enc P W fuel t (fun x => ∃ s : ByteArray, x = .lit (.string s) ∧ s.size ≤ maxLen) := (OpnAt.str ht).sz
theorem OpnSz.bytes {fuel : Nat} {t e : TypeId} (ht : P.underlying t = some (.slice e)) (he : P.underlying e = some (.int .u8)) (hc : P.cellsOf e = 1) (hb : P.bytesOf e = 1) : OpnSz enc P W fuel t (fun x => ∃ bs, x = .by_ bs ∧ bs.length ≤ reachBytes) := fun cs y hy hw => by
  obtain ⟨x, ⟨bs, rfl⟩, h2⟩ := OpnAt.bytes ht he hc cs y hy
  refine ⟨_, ⟨bs, rfl, ?_⟩, h2⟩
  rcases DataW.trod_slice ht hy with ⟨rfl, _⟩ | ⟨a, len, cap, elems, rest, n, hfu, rfl, hx, _, hl, hm, hlen, hel, _⟩
  · have h3 := h2.2 0 (.by_ bs) (.slice none 0 0) rfl rfl (fun _ => none)
    cases h3 with
    | by_ hn => omega
  · have h3 := h2.2 0 (.by_ bs) (.slice (some a) len cap) rfl rfl (fun _ => none)
    cases h3 with
    | by_ hn =>
      have h4 := hw ((elems.length + rest.length) * 1) (by rw [hx]; simp [DataW.weights, ht, hb])
      omega
theorem OpnSz.list {fuel : Nat} {t e : TypeId} {es : Nat} {Φ : AV → Prop} (ht : P.underlying t = some (.slice e)) (hc : P.cellsOf e = es) (h0 : 0 < es) (he : ∀ n, n < fuel → OpnSz enc P W n e Φ) : OpnSz enc P W fuel t (fun x => ∃ xs, x = .li es xs ∧ (∀ y ∈ xs, Φ y) ∧ xs.length * P.bytesOf e ≤ reachBytes) := fun cs y hy hw => by
  rcases DataW.trod_slice ht hy with ⟨rfl, _⟩ | ⟨a, len, cap, elems, rest, n, hfu, rfl, hx0, hb, hl, hm, hlen, hel, _⟩
  · exact ⟨.li es [], ⟨[], rfl, fun y hy => absurd hy (by simp), by simp [reachBytes]⟩, .one rfl fun m => .li (us := fun _ => undef) rfl (Nat.le_refl _) (Nat.zero_le _) (fun _ => rfl) h0 (fun x hx => absurd hx (by simp)) (.inl (by simp)) (fun i j x y' hx => absurd hx (by simp))⟩
  · rw [hc] at hel
    have hX : ∀ i, i < len → ∃ (x : AV) (c : List Value), Φ x ∧ CellsR W x c ∧ c.length = es ∧ ∀ j, j < es → W.cell? ((a.add (i * es)).add j) = c[j]? := by
      intro i hi
      have h1 := hel i hi
      have h2 : elems[i]? = some (elems[i]'(by omega)) := List.getElem?_eq_getElem _
      rw [h2] at h1
      obtain ⟨c, h3, h4⟩ := Option.bind_eq_some_iff.1 h1
      obtain ⟨_, h5, h6⟩ := World.cells?_some h3
      obtain ⟨x, h7, h8⟩ := he n (by omega) c _ h4 (fun q hq => hw q (by rw [hx0]; simp only [DataW.weights, ht, List.mem_cons, List.mem_append]; exact .inr (.inl (weights_mem_all (l := elems.map (·.1)) (j := i) (by rw [List.getElem?_map, h2]; rfl) q hq))))
      exact ⟨x, c, h7, h8, h5, h6⟩
    obtain ⟨F, hF⟩ : ∃ F : Nat → AV × List Value, ∀ i, i < len → Φ (F i).1 ∧ CellsR W (F i).1 (F i).2 ∧ (F i).2.length = es ∧ ∀ j, j < es → W.cell? ((a.add (i * es)).add j) = (F i).2[j]? := by
      refine ⟨fun i => if h : i < len then (Classical.choose (hX i h), Classical.choose (Classical.choose_spec (hX i h))) else (.any, []), fun i hi => ?_⟩
      simp only [dif_pos hi]
      exact Classical.choose_spec (Classical.choose_spec (hX i hi))
    let X : Nat → AV := fun i => (F i).1
    let C : Nat → List Value := fun i => (F i).2
    have hX1 : ∀ i, i < len → Φ (X i) := fun i hi => (hF i hi).1
    have hX2 : ∀ i, i < len → CellsR W (X i) (C i) := fun i hi => (hF i hi).2.1
    have hX3 : ∀ i, i < len → (C i).length = es := fun i hi => (hF i hi).2.2.1
    have hX4 : ∀ i, i < len → ∀ j, j < es → W.cell? ((a.add (i * es)).add j) = (C i)[j]? := fun i hi => (hF i hi).2.2.2
    clear_value X C
    have hat : ∀ (i : Nat) (x : AV), ((List.range len).map X)[i]? = some x → i < len ∧ x = X i := by
      intro i x hx
      rw [List.getElem?_map] at hx
      obtain ⟨q, h1, rfl⟩ := Option.map_eq_some_iff.1 hx
      obtain ⟨h2, h3⟩ := List.getElem?_eq_some_iff.1 h1
      simp at h2 h3
      exact ⟨h2, by rw [h3]⟩
    have hspot : 0 < len → ∃ b off, a = ⟨b, off, none⟩ := by
      intro hpos
      have h1 := hX4 0 hpos 0 h0
      have h2 := hX3 0 hpos
      rw [List.getElem?_eq_getElem (by omega)] at h1
      obtain ⟨b, off, spot⟩ := a
      have : spot = none := by simpa [Addr.add] using World.cell?_spot h1
      subst this
      exact ⟨b, off, rfl⟩
    refine ⟨.li es ((List.range len).map X), ⟨_, rfl, fun y hy => ?_, ?_⟩, .one rfl fun m => ?_⟩
    · obtain ⟨i, hi, rfl⟩ := List.mem_map.1 hy
      exact hX1 i (by simpa using hi)
    · have h4 := hw ((elems.length + rest.length) * P.bytesOf e) (by rw [hx0]; simp [DataW.weights, ht])
      rw [List.length_map, List.length_range, ← hlen]
      exact Nat.le_trans (Nat.mul_le_mul_right _ (Nat.le_add_right _ _)) h4
    · refine .li (us := fun q => (W.cell? (a.add q)).getD undef) (by simp) hl hm (fun h => by cases h) h0 (fun x hx => ?_) ?_ (fun i j x y' hx hy' => ?_)
      · obtain ⟨i, hi, rfl⟩ := List.mem_map.1 hx
        have hi : i < len := by simpa using hi
        rw [(hX2 i hi).1, hX3 i hi]
      · rcases Nat.eq_zero_or_pos len with h1 | hpos
        · exact .inl (by rw [h1]; simp)
        · obtain ⟨b, off, rfl⟩ := hspot hpos
          refine .inr ⟨b, off, rfl, fun q hq => ?_⟩
          have hi : q / es < len := Nat.div_lt_of_lt_mul (by rw [Nat.mul_comm]; exact hq)
          have hj : q % es < es := Nat.mod_lt _ h0
          have h1 := hX4 (q / es) hi (q % es) hj
          have e1 : q / es * es + q % es = q := by rw [Nat.mul_comm]; exact Nat.div_add_mod q es
          rw [TravelBase.add_plain, TravelBase.add_plain, Nat.add_assoc, e1, List.getElem?_eq_getElem (by rw [hX3 _ hi]; exact hj)] at h1
          refine ⟨World.block_lt_of_cell? W _ h1, ?_⟩
          simp only [TravelBase.add_plain, h1, Option.getD_some]
      · obtain ⟨hi, rfl⟩ := hat i x hx
        have hj : j < es := by
          have := (List.getElem?_eq_some_iff.1 hy').1
          rw [(hX2 i hi).1, hX3 i hi] at this
          exact this
        obtain ⟨b, off, rfl⟩ := hspot (by omega)
        have h1 := hX4 i hi j hj
        have h2 : (C i)[j]? = some ((C i)[j]'(by rw [hX3 i hi]; exact hj)) := List.getElem?_eq_getElem _
        have h3 := (hX2 i hi).2 j y' _ hy' h2 m
        rw [h2, TravelBase.add_plain, TravelBase.add_plain, Nat.add_assoc] at h1
        simp only [TravelBase.add_plain, h1, Option.getD_some]
        exact h3
theorem OpnSz.struct {fuel : Nat} {t : TypeId} {fs : Array Field} {Φ : Nat → AV → Prop} (ht : P.underlying t = some (.struct fs)) (hc : contigB P fs.toList 0 (P.cellsOf t) = true) (hf : ∀ (k : Nat) (f : Field), fs[k]? = some f → ∀ n, n < fuel → OpnSz enc P W n f.type (Φ k)) :
    OpnSz enc P W fuel t (fun x => ∃ ps : List AV, x = .agg (ps.flatMap AV.cl) ∧ ps.length = fs.size ∧ ∀ (k : Nat) (p : AV), ps[k]? = some p → Φ k p) := fun cs y hy hw => by
  obtain ⟨xs, n, hfu, hx0, hlen, hxl, hg⟩ := DataW.trod_struct ht hy
  obtain ⟨ps, q1, q2, q3, q4⟩ := parts_of (P := P) (W := W) fs.toList 0 0 cs Φ (by rw [hlen]; exact hc) (fun k f hk => by
    have hk' : fs[k]? = some f := by simpa using hk
    have h1 := hg k f hk'
    have hk2 : k < xs.length := by rw [hxl]; exact (Array.getElem?_eq_some_iff.1 hk').1
    rw [List.getElem?_eq_getElem hk2] at h1
    rw [Nat.zero_add]
    exact hf k f hk' n (by omega) _ _ h1 (fun q hq => hw q (by rw [hx0]; simp only [DataW.weights, ht]; exact DataW.weights_mem_each (j := k) (by simp [hk']) (by simp [List.getElem?_map, List.getElem?_eq_getElem hk2]) q hq)))
  simp only [List.drop_zero, Nat.zero_add] at q2 q3 q4
  exact ⟨_, ⟨ps, rfl, by rw [q1]; simp, q2⟩, q3, q4⟩
/-- A struct, field by field. -/
def FzOK (enc : TypeId × Value → H) (P : Program) (W : World) (fuel : Nat) (Φ : Nat → AV → Prop) : List Field → Nat → Prop
  | [], _ => True
  | f :: fs, k => (∀ n, n < fuel → OpnSz enc P W n f.type (Φ k)) ∧ FzOK enc P W fuel Φ fs (k + 1)
theorem FzOK.at_ {fuel : Nat} {Φ : Nat → AV → Prop} : ∀ {fs : List Field} {i0 : Nat}, FzOK enc P W fuel Φ fs i0 → ∀ (k : Nat) (f : Field), fs[k]? = some f → ∀ n, n < fuel → OpnSz enc P W n f.type (Φ (i0 + k))
  | [], _, _, k, f, hk => by simp at hk
  | g :: fs, i0, h, 0, f, hk => by
    simp at hk
    subst hk
    exact h.1
  | g :: fs, i0, h, k + 1, f, hk => by
    have := FzOK.at_ h.2 k f (by simpa using hk)
    rwa [show i0 + 1 + k = i0 + (k + 1) by omega] at this
theorem OpnSz.structL {fuel : Nat} {t : TypeId} {fs : Array Field} (Φ : Nat → AV → Prop) (ht : P.underlying t = some (.struct fs)) (hc : contigB P fs.toList 0 (P.cellsOf t) = true) (hf : FzOK enc P W fuel Φ fs.toList 0) :
    OpnSz enc P W fuel t (fun x => ∃ ps : List AV, x = .agg (ps.flatMap AV.cl) ∧ ps.length = fs.size ∧ ∀ (k : Nat) (p : AV), ps[k]? = some p → Φ k p) :=
  OpnSz.struct ht hc fun k f hk n hn => by
    have := hf.at_ k f (by simpa using hk) n hn
    rwa [Nat.zero_add] at this
/-- A parameter's own part of the weights. -/
theorem LtW_of {ts : List TypeId} {ds : List (DataW H)} (h : (DataW.weightsEach P ts ds).all (· ≤ reachBytes) = true) {j : Nat} {t : TypeId} {d : DataW H} (ht : ts[j]? = some t) (hd : ds[j]? = some d) : LtW P t d := fun n hn => by
  have := List.all_eq_true.1 h _ (DataW.weights_mem_each ht hd n hn)
  simpa using this
/-- A parameter of one cell, and a struct or an array. -/
theorem opz_cell {t : TypeId} {v : Value} {d : DataW H} {p : List MemPlace} {Φ : AV → Prop} (hv : v.cells = #[v]) (hO : ∀ fuel, OpnSz enc P W fuel t Φ) (h1 : ∀ x, Φ x → x.cl = [x]) (hw : LtW P t d) (h : DataW.Trod enc P W 0 (fun _ => true) true t v d p) : ∃ x, Φ x ∧ ∀ m, VR W (fun b _ => b < W.heap.size) m x v := by
  obtain ⟨fuel, ht⟩ := h
  rw [hv] at ht
  obtain ⟨x, h2, h3, h4⟩ := hO fuel _ _ ht hw
  refine ⟨x, h2, fun m => h4 0 x v ?_ rfl m⟩
  rw [h1 x h2]
  rfl
theorem opz_row {t : TypeId} {cs : Array Value} {d : DataW H} {p : List MemPlace} {Φ : AV → Prop} (hO : ∀ fuel, OpnSz enc P W fuel t Φ) (hw : LtW P t d) (h : DataW.Trod enc P W 0 (fun _ => true) true t (.agg cs) d p) : ∃ x, Φ x ∧ ∀ m, VR W (fun b _ => b < W.heap.size) m (.agg x.cl) (.agg cs) := by
  obtain ⟨fuel, ht⟩ := h
  obtain ⟨x, h2, h3, h4⟩ := hO fuel _ _ ht hw
  refine ⟨x, h2, fun m => .agg ?_ fun j z u hz hu => h4 j z u hz (by simpa [Value.cells] using hu) m⟩
  rw [h3]
  simp [Value.cells]
end
end Go.Proofs.YtgmmdijmlnehlaaDoor
