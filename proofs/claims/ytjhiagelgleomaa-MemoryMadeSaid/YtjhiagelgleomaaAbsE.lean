import Derived.Test.YtjhiagelgleomaaAbsD
namespace Go.TravelAbs
open Go.RowKit Go.TravelBase
set_option linter.unusedVariables false
set_option linter.unusedSimpArgs false

section
variable {P : Program} {ty : Ty} {w : World} {S : CSet} {m : RMap}
/-! ## Cells -/
def okc (x : AV) : Bool := x.cl.all AV.one
theorem cells_nonagg {v : Value} (h : v.oneCell' = true) : v.cells = #[v] := by
  cases v <;> first | rfl | cases h
theorem cells_of {x : AV} {v : Value} (h : VR w S m x v) (ho : okc x = true) :
    v.cells.size = x.cl.length ∧ (∀ (j : Nat) (y : AV), x.cl[j]? = some y → ∃ u, v.cells[j]? = some u ∧ VR w S m y u) ∧ ∀ u ∈ v.cells.toList, u.oneCell' = true := by
  have hsingle : ∀ {x : AV}, x.cl = [x] → okc x = true → VR w S m x v → v.cells.size = x.cl.length ∧ (∀ (j : Nat) (y : AV), x.cl[j]? = some y → ∃ u, v.cells[j]? = some u ∧ VR w S m y u) ∧ ∀ u ∈ v.cells.toList, u.oneCell' = true := by
    intro x hx ho h
    have h1 : x.one = true := by simpa [okc, hx] using ho
    have h2 := h.one h1
    rw [cells_nonagg h2, hx]
    refine ⟨rfl, fun j y hy => ?_, fun u hu => ?_⟩
    · match j, hy with
      | 0, hy =>
        simp at hy
        subst hy
        exact ⟨v, rfl, h⟩
    · simp at hu
      subst hu
      exact h2
  cases x with
  | agg xs =>
    obtain ⟨cs, rfl, hl, hp⟩ := h.agg_inv
    refine ⟨hl, fun j y hy => ?_, fun u hu => ?_⟩
    · have hj : j < cs.size := by rw [hl]; exact (List.getElem?_eq_some_iff.1 hy).1
      exact ⟨cs[j], Array.getElem?_eq_getElem hj, hp j y _ hy (Array.getElem?_eq_getElem hj)⟩
    · obtain ⟨j, hj, e⟩ := List.getElem_of_mem hu
      have hj' : j < cs.size := by simpa [Value.cells] using hj
      have hx : j < xs.length := by omega
      have h1 := hp j xs[j] cs[j] (List.getElem?_eq_getElem hx) (Array.getElem?_eq_getElem hj')
      have h2 : (xs[j]).one = true := by
        have := List.all_eq_true.1 ho xs[j] (List.getElem_mem hx)
        exact this
      have h3 := h1.one h2
      rw [← e]
      simpa [Value.cells] using h3
  | lit v => exact hsingle rfl ho h
  | by_ bs => exact hsingle rfl ho h
  | li es xs => exact hsingle rfl ho h
  | tup xs => exact hsingle rfl ho h
  | sl k es i n => exact hsingle rfl ho h
  | ptr k i off => exact hsingle rfl ho h
  | ep y off => exact hsingle rfl ho h
  | clo f caps => exact hsingle rfl ho h
  | opt c y => exact hsingle rfl ho h
  | fr y => exact hsingle rfl ho h
  | any => exact hsingle rfl ho h

/-- The content c in an array of cells. -/
def HA (w : World) (S : CSet) (m : RMap) (es : Nat) (c : AV) (cur : Array Value) : Prop :=
  ∀ i, i < cN c → (cAt c i).cl.length = es ∧ ∀ j y, (cAt c i).cl[j]? = some y → ∃ u, cur[i * es + j]? = some u ∧ VR w S m y u
def okL : AV → Prop
  | .by_ _ => True
  | .li _ xs => ∀ x ∈ xs, okc x = true
  | _ => False
/-- A list that is read. -/
def LR (w : World) (S : CSet) (m : RMap) (c : AV) (v : Value) : Prop :=
  ∃ A n cap, v = .slice A n cap ∧ cN c = n ∧ n ≤ cap ∧
    (n = 0 ∨ ∃ b off, A = some ⟨b, off, none⟩ ∧ ∀ i, i < n → (cAt c i).cl.length = cE c ∧ ∀ j y, (cAt c i).cl[j]? = some y → ∃ u, w.cell? ⟨b, off + (i * cE c + j), none⟩ = some u ∧ VR w S m y u)
def asL (H : List (Nat × Blk)) (x : AV) : Option (AV × Prop) :=
  match x with
  | .by_ bs => some (.by_ bs, True)
  | .li es xs => some (.li es xs, True)
  | .lit (.slice none 0 0) => some (.by_ [], True)
  | .sl k es i n =>
    match lk H k with
    | some b => some (sub b.c i n, b.mode < 3 ∧ i + n ≤ cN b.c)
    | none => none
  | _ => none
theorem sub_at {c : AV} {i n j : Nat} (h : i + n ≤ cN c) (hj : j < n) : cAt (sub c i n) j = cAt c (i + j) ∧ cE (sub c i n) = cE c := by
  cases c with
  | by_ bs =>
    refine ⟨?_, rfl⟩
    simp only [sub, cAt, List.getD]
    rw [List.getElem?_take, if_pos hj, List.getElem?_drop]
  | li es xs =>
    refine ⟨?_, rfl⟩
    simp only [sub, cAt, List.getD]
    rw [List.getElem?_take, if_pos hj, List.getElem?_drop]
  | _ => simp only [cN] at h; omega
theorem sub_len {c : AV} {i n : Nat} (h : i + n ≤ cN c) : cN (sub c i n) = n := by
  cases c with
  | by_ bs => simp only [cN] at h; simp [sub, cN]; omega
  | li es xs => simp only [cN] at h; simp [sub, cN]; omega
  | _ => simp only [cN] at h; simp [sub, cN]; omega
theorem cl_bA (b : UInt8) : (bA b).cl = [bA b] := rfl
theorem asL_ok {X : Cx} {H : List (Nat × Blk)} (hM : Mem X H S m w) {x : AV} {v : Value} (hv : VR w S m x v) {c : AV} {vc : Prop} (h : asL H x = some (c, vc)) (hvc : vc) : LR w S m c v := by
  unfold asL at h
  split at h
  · injection h with h
    simp only [Prod.mk.injEq] at h
    obtain ⟨rfl, rfl⟩ := h
    cases hv with
    | by_ hn hc hm h0 hA =>
      refine ⟨_, _, _, rfl, hn, hc, ?_⟩
      rcases hA with h | ⟨b, off, e, h⟩
      · exact .inl h
      · refine .inr ⟨b, off, e, fun i hi => ⟨rfl, fun j y hy => ?_⟩⟩
        simp only [cAt, cl_bA] at hy
        match j, hy with
        | 0, hy =>
          simp at hy
          subst hy
          refine ⟨_, ?_, .lit _⟩
          simp only [cE, Nat.mul_one, Nat.add_zero]
          exact (h i hi).2
  · injection h with h
    simp only [Prod.mk.injEq] at h
    obtain ⟨rfl, rfl⟩ := h
    cases hv with
    | li us hn hc hm h0 hes he hA hh =>
      rename_i es xs A n cap
      refine ⟨_, _, _, rfl, hn, hc, ?_⟩
      rcases Nat.eq_zero_or_pos n with h | hpos
      · exact .inl h
      · right
        obtain ⟨b, off, e, h⟩ := hA.at_ (Nat.mul_pos hpos hes)
        refine ⟨b, off, e, fun i hi => ?_⟩
        have hx : xs[i]? = some (cAt (.li es xs) i) := getD_of_lt (by omega)
        have hl := he _ (List.mem_of_getElem? hx)
        refine ⟨hl, fun j y hy => ⟨us (i * es + j), ?_, hh i j _ y hx hy⟩⟩
        have hj : j < es := by rw [← hl]; exact (List.getElem?_eq_some_iff.1 hy).1
        exact (h _ (row_mul hi hj)).2
  · injection h with h
    simp only [Prod.mk.injEq] at h
    obtain ⟨rfl, rfl⟩ := h
    obtain rfl := hv.lit_inv
    exact ⟨_, _, _, rfl, rfl, Nat.le_refl _, .inl rfl⟩
  · rename_i k es i n
    split at h
    · rename_i b hb
      injection h with h
      simp only [Prod.mk.injEq] at h
      obtain ⟨rfl, rfl⟩ := h
      obtain ⟨hm, hlen⟩ := hvc
      obtain ⟨r, A, h1, h2, h3, h4, h5, h6, rfl⟩ := hv.sl_inv
      obtain ⟨r', h7, h8⟩ := hM.blk k b hb
      rw [h1] at h7
      injection h7 with h7
      subst h7
      have hB := h8 hm
      refine ⟨_, _, _, rfl, sub_len hlen, by omega, ?_⟩
      rcases Nat.eq_zero_or_pos n with h | hpos
      · exact .inl h
      · right
        have := hB.len
        refine ⟨r.g, i * r.es, h5 (by omega), fun j hj => ?_⟩
        obtain ⟨e1, e2⟩ := sub_at hlen hj
        obtain ⟨q1, q2⟩ := hB.rd (i + j) (by omega)
        rw [e1, e2, ← hB.es]
        refine ⟨q1, fun l y hy => ?_⟩
        obtain ⟨u, q3, q4⟩ := q2 l y hy
        refine ⟨u, ?_, q4⟩
        rw [Nat.add_mul, Nat.add_assoc] at q3
        exact q3
    · cases h
  · cases h
theorem okL_one {c : AV} (hok : okL c) {i : Nat} (hi : i < cN c) : ∀ z ∈ (cAt c i).cl, z.one = true := by
  intro z hz
  cases c with
  | by_ bs =>
    simp only [cAt, cl_bA, List.mem_singleton] at hz
    subst hz
    rfl
  | li es' xs =>
    have hx : xs[i]? = some (cAt (.li es' xs) i) := getD_of_lt hi
    exact List.all_eq_true.1 (hok _ (List.mem_of_getElem? hx)) _ hz
  | _ => exact hok.elim
/-- The cells of a list that is read. -/
theorem LR.news {c : AV} {v : Value} (h : LR w S m c v) {es : Nat} (he : cN c = 0 ∨ cE c = es) (hok : okL c) {tx e' : TypeId} (hk : P.underlying tx = some (.slice e')) :
    ∃ news : List Value, Src P es tx v (cN c) news w ∧ HA w S m es c news.toArray := by
  obtain ⟨A, n, cap, rfl, hn, hcap, hr⟩ := h
  subst hn
  rcases Nat.eq_zero_or_pos (cN c) with h0 | hpos
  · refine ⟨[], ?_, fun i hi => by omega⟩
    rw [h0]
    cases A with
    | none => exact Src.ofNil w hk cap
    | some a => exact Src.ofSlice w hk a 0 cap [] (by simp) (fun j u hu => by simp at hu) (fun u hu => by cases hu)
  · have he : cE c = es := by omega
    rcases hr with h | ⟨b, off, rfl, hr⟩
    · omega
    · rw [he] at hr
      have hcell : ∀ k, k < cN c * es → ∃ u, w.cell? ⟨b, off + k, none⟩ = some u ∧ u.oneCell' = true := by
        intro k hk
        have hes : 0 < es := by
          rcases Nat.eq_zero_or_pos es with h | h
          · rw [h] at hk; omega
          · exact h
        have hi : k / es < cN c := (Nat.div_lt_iff_lt_mul hes).2 hk
        obtain ⟨h1, h2⟩ := hr (k / es) hi
        have hj : k % es < (cAt c (k / es)).cl.length := by rw [h1]; exact Nat.mod_lt _ hes
        obtain ⟨u, h3, h4⟩ := h2 (k % es) _ (List.getElem?_eq_getElem hj)
        refine ⟨u, ?_, h4.one ?_⟩
        · rw [← h3, Nat.mul_comm, Nat.div_add_mod]
        · exact okL_one hok hi _ (List.getElem_mem hj)
      refine ⟨(List.range (cN c * es)).map fun k => (w.cell? ⟨b, off + k, none⟩).getD undef, Src.ofSlice w hk _ _ _ _ (by simp) (fun j u hu => ?_) (fun u hu => ?_), fun i hi => ⟨(hr i hi).1, fun j y hy => ?_⟩⟩
      · rw [List.getElem?_map] at hu
        obtain ⟨k, h1, rfl⟩ := Option.map_eq_some_iff.1 hu
        have hj : j < cN c * es := by have := (List.getElem?_eq_some_iff.1 h1).1; simpa using this
        rw [List.getElem?_range hj] at h1
        injection h1 with h1
        subst h1
        obtain ⟨u, h2, _⟩ := hcell j hj
        rw [add_mid, h2]
        rfl
      · obtain ⟨k, h1, rfl⟩ := List.mem_map.1 hu
        obtain ⟨u, h2, h3⟩ := hcell k (List.mem_range.1 h1)
        rw [h2]
        exact h3
      · obtain ⟨u, h1, h2⟩ := (hr i hi).2 j y hy
        refine ⟨u, ?_, h2⟩
        have hj : j < es := by rw [← (hr i hi).1]; exact (List.getElem?_eq_some_iff.1 hy).1
        have hlt := row_mul hi hj
        simp [hlt, h1]
end
end Go.TravelAbs
