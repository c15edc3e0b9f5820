import Derived.Test.YtjhiagelgleomaaMemL
namespace Go.Proofs.Ytjhiagelgleomaa
open Go.RowKit Go.TravelBase Go.TravelAbs
set_option linter.unusedVariables false
set_option linter.unusedSimpArgs false

/-! ### The plain law of MemoryExact -/
theorem numV_two (x y : UInt8) : numV [x, y] = 256 * (x.toNat : Int) + (y.toNat : Int) := by
  unfold numV
  rw [if_neg (by simp)]
  simp [numS]
  omega
theorem two_at {b : List UInt8} (h : b.length = 265) : (b.take 9).drop 7 = [b.getD 7 0, b.getD 8 0] := by
  apply List.ext_getElem
  · simp [h]
  · intro i h1 h2
    have hi : i = 0 ∨ i = 1 := by simp at h2; omega
    rcases hi with rfl | rfl <;> simp [List.getD, List.getElem?_eq_getElem (show 7 < b.length by omega), List.getElem?_eq_getElem (show 8 < b.length by omega)]
theorem lenS_eq {b : List UInt8} (h : b.length = 265) : numV ((b.take 9).drop 7) = lenS b := by
  rw [two_at h, numV_two]
  rfl
theorem rO_cO (b : List UInt8) : rO b = cO b := by
  by_cases h : b.length = 265
  · unfold rO cO
    rw [lenS_eq h]
    have h1 : ((b.length : Int) == 265) = true := by rw [h]; rfl
    rw [h1, decide_eq_true h, cond_true]
    by_cases h2 : (b.getD 0 0).toNat = 1
    · rw [h2]; simp
    · have h3 : (((b.getD 0 0).toNat : Int) == 1) = false := by rw [beq_eq_false_iff_ne]; omega
      rw [h3, decide_eq_false h2]
      simp
  · have h1 : ((b.length : Int) == 265) = false := by rw [beq_eq_false_iff_ne]; omega
    unfold rO cO
    rw [h1, decide_eq_false h]
    simp
theorem rN_nV {b : List UInt8} (h : rO b = true) : rN b = nV b := by unfold rN; rw [if_pos h]; rfl
theorem rR_recS {b : List UInt8} (h : rO b = true) : rR b = recS b := by
  have hl := cO_len (by rw [← rO_cO]; exact h)
  unfold rR recS
  rw [if_pos h, lenS_eq hl.1]
/-- Both look at the same slot. -/
theorem nK_fK (a b : List UInt8) : (nK a b = false ∧ fK a b = -1) ∨ (nK a b = true ∧ nP a b = false ∧ fK a b = 0 ∧ rO a = true) ∨ (nK a b = true ∧ nP a b = true ∧ fK a b = 1 ∧ rO b = true) := by
  have ca := rO_cO a
  have cb := rO_cO b
  cases h1 : rO a <;> cases h2 : rO b <;> rw [h1] at ca <;> rw [h2] at cb
  · refine .inl ?_
    simp [nK, nP, fK, h1, h2, ← ca, ← cb]
  · refine .inr (.inr ?_)
    simp [nK, nP, fK, h1, h2, ← ca, ← cb]
  · refine .inr (.inl ?_)
    simp [nK, nP, fK, h1, h2, ← ca, ← cb]
  · have ea := rN_nV h1
    have eb := rN_nV h2
    by_cases h3 : nV b > nV a
    · refine .inr (.inr ?_)
      simp [nK, nP, fK, h1, h2, ← ca, ← cb, ea, eb, h3]
    · refine .inr (.inl ?_)
      simp [nK, nP, fK, h1, h2, ← ca, ← cb, ea, eb, h3]
theorem load_law (a b : List UInt8) : lE a b = gE a b ∧ lR a b = gR a b := by
  rcases nK_fK a b with ⟨h1, h2⟩ | ⟨h1, h2, h3, h4⟩ | ⟨h1, h2, h3, h4⟩
  · simp [lE, lR, gE, gR, h1, h2]
  · simp [lE, lR, gE, gR, nR, h1, h2, h3, rR_recS h4]
  · simp [lE, lR, gE, gR, nR, h1, h2, h3, rR_recS h4]
theorem plan_lawE (a b rec : List UInt8) : pE a b rec = qE a b rec := by
  unfold pE qE
  rcases nK_fK a b with ⟨h1, h2⟩ | ⟨h1, h2, h3, h4⟩ | ⟨h1, h2, h3, h4⟩
  · simp [h1, h2]
  · simp only [h1, h3, nN, h2, rN_nV h4]
    split
    · rfl
    · have : (nV a + 1 = 281474976710656) ↔ (nV a = 281474976710655) := by omega
      simp [this]
  · simp only [h1, h3, nN, h2, rN_nV h4]
    split
    · rfl
    · have : (nV b + 1 = 281474976710656) ↔ (nV b = 281474976710655) := by omega
      simp [this]
end Go.Proofs.Ytjhiagelgleomaa
