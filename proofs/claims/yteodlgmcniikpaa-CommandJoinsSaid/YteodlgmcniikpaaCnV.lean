import Derived.Test.YteodlgmcniikpaaCnT
namespace Go.Proofs.Yteodlgmcniikpaa
open Go.RowKit Go.TravelBase Go.TravelAbs
set_option linter.unusedVariables false
set_option linter.unusedSimpArgs false

















/-! ### The law CommandJoins: the plain law -/
theorem flat_splt {bs : List UInt8} {size : Int} (hs : 1 ≤ size) : flatL (splitL bs size) = bs := by
  unfold splitL
  rw [if_neg (by omega)]
  unfold flatL
  rw [flat_pieces]
  refine List.take_of_length_le ?_
  unfold countS
  have h1 := Nat.div_add_mod (bs.length + size.toNat - 1) size.toNat
  have h2 := Nat.mod_lt (bs.length + size.toNat - 1) (show 0 < size.toNat by omega)
  rw [Nat.mul_comm] at h1
  omega
theorem flat_ps2 (c : Cm) {size : Int} (hs : 1 ≤ size) : flatL (ps2 c size) = c.data := by
  unfold ps2
  split
  · rename_i h
    rw [split_nil (by omega) h]
    rfl
  · exact flat_splt hs
theorem ps2_pos (c : Cm) (size : Int) : 1 ≤ (ps2 c size).length := by
  unfold ps2
  split
  · simp
  · rename_i h
    exact Nat.one_le_iff_ne_zero.2 fun q => h (List.length_eq_zero_iff.1 q)
theorem ps2_le (c : Cm) {size : Int} (hs : 1 ≤ size) {i : Nat} (hi : i < (ps2 c size).length) : ((ps2 c size)[i].length : Int) ≤ size := by
  have : ∀ x ∈ ps2 c size, (x.length : Int) ≤ size := by
    unfold ps2
    split
    · intro x hx
      simp at hx
      subst hx
      simp
      omega
    · intro x hx
      unfold splitL at hx
      rw [if_neg (by omega)] at hx
      unfold piecesS at hx
      obtain ⟨j, _, rfl⟩ := List.mem_map.1 hx
      unfold pieceS
      rw [List.length_take]
      omega
  exact this _ (List.getElem_mem hi)
/-- What was joined of the first i units. -/
def jxC (c : Cm) (ps : List (List UInt8)) (i : Nat) : Cm := if i = 1 then pcC c ps 0 else ⟨c.cls, c.ins, c.p1, c.p2, flatL (ps.take i), if i < ps.length then -1 else c.exp⟩
theorem chB_made {x : Int} (h : x = 0 ∨ x = 128 ∨ x = 224) : chB x = false ∧ chB (x + 16) = true ∧ plI x = x ∧ plI (x + 16) = x ∧ ¬ x = 239 := by
  rcases h with rfl | rfl | rfl <;> decide
theorem flat_le (ps : List (List UInt8)) (i : Nat) : (flatL (ps.take i)).length ≤ (flatL ps).length := by
  rw [flatL_len, flatL_len]
  exact sumL_le ps i
theorem pc_val {c : Cm} (h : MadC c) {ps : List (List UInt8)} (hf : flatL ps = c.data) {i : Nat} (hi : i < ps.length) : ValC (pcC c ps i) := by
  obtain ⟨⟨h1, h2, h3, h4⟩, h5⟩ := h
  have g : ps.getD i [] = ps[i] := by simp [List.getD, List.getElem?_eq_getElem hi]
  have hl : ps[i].length ≤ c.data.length := by
    have e := flatL_succ hi
    have := flat_le ps (i + 1)
    rw [hf, e, List.length_append] at this
    omega
  unfold pcC
  rw [g]
  split
  · exact ⟨h1, by simp only; omega, by simp only; omega, .inl rfl⟩
  · exact ⟨h1, h2, by simp only; omega, h4⟩
theorem jx_val {c : Cm} (h : MadC c) {ps : List (List UInt8)} (hf : flatL ps = c.data) (hp : 1 ≤ ps.length) {i : Nat} (hi : 1 ≤ i) : ValC (jxC c ps i) := by
  unfold jxC
  split
  · exact pc_val h hf (by omega)
  · have hl := flat_le ps i
    rw [hf] at hl
    obtain ⟨⟨h1, h2, h3, h4⟩, h5⟩ := h
    refine ⟨h1, h2, by simp only; omega, ?_⟩
    simp only
    split
    · exact .inl rfl
    · exact h4
theorem jx_step {c : Cm} (h : MadC c) {ps : List (List UInt8)} (hf : flatL ps = c.data) {i : Nat} (h1 : 1 ≤ i) (hi : i < ps.length) :
    jnE (jxC c ps i) (pcC c ps i) = 0 ∧ jnV (jxC c ps i) (pcC c ps i) = jxC c ps (i + 1) ∧ jnO (jxC c ps i) (pcC c ps i) = decide (i = ps.length - 1) := by
  obtain ⟨k1, k2, k3, k4, k5⟩ := chB_made h.2
  have va := jx_val h hf (by omega) h1
  have vb := pc_val h hf hi
  have g : ps.getD i [] = ps[i] := by simp [List.getD, List.getElem?_eq_getElem hi]
  have hl := flat_le ps (i + 1)
  rw [hf, flatL_succ hi, List.length_append] at hl
  have hd := h.1.2.2.1
  have hx : plI (jxC c ps i).cls = c.cls ∧ (jxC c ps i).ins = c.ins ∧ (jxC c ps i).p1 = c.p1 ∧ (jxC c ps i).p2 = c.p2 ∧ (jxC c ps i).data = flatL (ps.take i) := by
    unfold jxC
    split
    · rename_i e
      subst e
      have g0 : ps.getD 0 [] = ps[0] := by simp [List.getD, List.getElem?_eq_getElem (show 0 < ps.length by omega)]
      have e0 := flatL_succ (show 0 < ps.length by omega)
      rw [List.take_zero] at e0
      unfold pcC
      rw [if_pos (by omega), g0, e0]
      exact ⟨k4, rfl, rfl, rfl, rfl⟩
    · exact ⟨k3, rfl, rfl, rfl, rfl⟩
  have hy : plI (pcC c ps i).cls = c.cls ∧ (pcC c ps i).ins = c.ins ∧ (pcC c ps i).p1 = c.p1 ∧ (pcC c ps i).p2 = c.p2 ∧ (pcC c ps i).data = ps[i] ∧ (pcC c ps i).exp = (if i + 1 < ps.length then -1 else c.exp) ∧ (!chB (pcC c ps i).cls) = decide (i = ps.length - 1) := by
    unfold pcC
    rw [g]
    split
    · exact ⟨k4, rfl, rfl, rfl, rfl, rfl, by rw [k2]; exact (decide_eq_false (by omega)).symm⟩
    · exact ⟨k3, rfl, rfl, rfl, rfl, rfl, by rw [k1]; exact (decide_eq_true (by omega)).symm⟩
  obtain ⟨x1, x2, x3, x4, x5⟩ := hx
  obtain ⟨y1, y2, y3, y4, y5, y6, y7⟩ := hy
  have e : jnE (jxC c ps i) (pcC c ps i) = 0 := by
    unfold jnE
    rw [if_neg (by simp [va, vb]), if_neg (by unfold difC; rw [x1, x2, x3, x4, y1, y2, y3, y4]; simp), if_neg (by rw [x5, y5]; omega)]
  refine ⟨e, ?_, by rw [jnO, if_pos e, y7]⟩
  have e1 : ¬ i + 1 = 1 := by omega
  rw [jnV, if_pos e, y1, y2, y3, y4, x5, y5, y6, jxC, if_neg e1, flatL_succ hi]
theorem jx_end {c : Cm} {ps : List (List UInt8)} (hf : flatL ps = c.data) (hp : 1 ≤ ps.length) : jxC c ps ps.length = c := by
  unfold jxC
  split
  · rename_i e
    have g0 : ps.getD 0 [] = ps[0] := by simp [List.getD, List.getElem?_eq_getElem (show 0 < ps.length by omega)]
    have e0 := flatL_succ (show 0 < ps.length by omega)
    rw [List.take_zero, List.take_of_length_le (by omega), hf] at e0
    unfold pcC
    rw [if_neg (by omega), g0]
    obtain ⟨c1, c2, c3, c4, c5, c6⟩ := c
    simp only at e0
    rw [e0]
    rfl
  · rw [List.take_length, hf, if_neg (by omega)]
end Go.Proofs.Yteodlgmcniikpaa
