import Derived.Test.YtjhiagelgleomaaAbsV
namespace Go.TravelAbs
open Go.RowKit Go.TravelBase
set_option linter.unusedVariables false
set_option linter.unusedSimpArgs false

section
variable {P : Program} {ty : Ty} {X : Cx} {H : List (Nat × Blk)} {S : CSet} {m : RMap} {w : World} {σ : Sg} {Q : Exit → Act → World → Prop}
/-! ## A nil slice is an empty block of the call's own -/
theorem nil_own {k : Nat} {c : AV} (hc : cN c = 0) : VR w S (mset m k ⟨0, 0, cE c⟩) (.sl k (cE c) 0 0) (.slice none 0 0) :=
  .sl (r := ⟨0, 0, cE c⟩) (by simp [mset]) rfl (Nat.le_refl _) (Nat.zero_le _) (fun h => absurd h (Nat.lt_irrefl _)) (fun _ => rfl)
theorem Rel.own0 {s : St} (t : Nat) (c : AV) (ht0 : gt s.tm t = .lit (.slice none 0 0)) (hc : cN c = 0) {a : Act} (hR : Rel X s a w) : Rel X ⟨(t, .sl s.ctr (cE c) 0 0) :: s.tm, (s.ctr, ⟨c, 0, false⟩) :: s.H, s.ctr + 8, s.sz⟩ a w := by
  obtain ⟨S, m, hM, ht⟩ := hR.mem
  have hk := hR.kl s.ctr (Nat.le_refl _)
  obtain ⟨q1, q2⟩ := hM.newE hk hc
  refine ⟨hR.size, hR.defers, fun k hk' => ?_, S, _, q1, fun t' => ?_⟩
  · simp only [lk]
    have hk' : s.ctr + 8 ≤ k := hk'
    rw [if_neg (by omega)]
    exact hR.kl k (by omega)
  · by_cases e : t' = t
    · subst e
      have h1 := ht t'
      rw [ht0] at h1
      have h2 := h1.lit_inv
      rw [h2]
      have e1 : gt ((t', AV.sl s.ctr (cE c) 0 0) :: s.tm) t' = .sl s.ctr (cE c) 0 0 := by simp [gt, lk]
      show VR w S _ (gt ((t', AV.sl s.ctr (cE c) 0 0) :: s.tm) t') _
      rw [e1]
      exact nil_own hc
    · have e1 : gt ((t, AV.sl s.ctr (cE c) 0 0) :: s.tm) t' = gt s.tm t' := by simp [gt, lk, e]
      show VR w S _ (gt ((t, AV.sl s.ctr (cE c) 0 0) :: s.tm) t') _
      rw [e1]
      exact (ht t').adv q2
theorem WA.own0 {c : Code} {s : St} (t : Nat) (x : AV) (ht0 : gt s.tm t = .lit (.slice none 0 0)) (hc : cN x = 0) (h : WA P X c Q ⟨(t, .sl s.ctr (cE x) 0 0) :: s.tm, (s.ctr, ⟨x, 0, false⟩) :: s.H, s.ctr + 8, s.sz⟩) : WA P X c Q s :=
  fun a w hR => h a w (hR.own0 t x ht0 hc)
/-- A cell that holds nil, likewise. -/
theorem Rel.own0c {s : St} (k es off : Nat) (x c : AV) (md : Nat) (ln : Bool) (hb : lk s.H k = some ⟨.li es [x], md, ln⟩) (hmd : md = 0) (hx : x.cl[off]? = some (.lit (.slice none 0 0))) (hc : cN c = 0) {x' : AV} (hx' : x'.cl = x.cl.set off (.sl s.ctr (cE c) 0 0)) {a : Act} (hR : Rel X s a w) :
    Rel X ⟨s.tm, (k, ⟨.li es [x'], md, ln⟩) :: (s.ctr, ⟨c, 0, false⟩) :: s.H, s.ctr + 8, s.sz⟩ a w := by
  subst hmd
  obtain ⟨S, m, hM, ht⟩ := hR.mem
  have hk := hR.kl s.ctr (Nat.le_refl _)
  obtain ⟨q1, q2⟩ := hM.newE hk hc
  have hne : k ≠ s.ctr := by intro e; rw [e, hk] at hb; cases hb
  have hne' : s.ctr ≠ k := fun e => hne e.symm
  obtain ⟨r, hr, hB⟩ := q1.blk k ⟨.li es [x], 0, ln⟩ (by simp only [lk]; rw [if_neg hne]; exact hb)
  have hB := hB (by decide : 0 < 3)
  refine ⟨hR.size, hR.defers, fun k' hk' => ?_, S, _, ?_, fun t => (ht t).adv q2⟩
  · have hk' : s.ctr + 8 ≤ k' := hk'
    simp only [lk]
    rw [if_neg (by omega : ¬ k' = s.ctr)]
    have h0 := hR.kl k' (by omega)
    rw [if_neg (by intro e; rw [e, hb] at h0; cases h0)]
    exact h0
  · refine ⟨q1.lm, q1.frm, q1.s0, q1.s1, q1.slt, fun k' hk' => ?_, fun k' b' hk' => ?_, fun k1 k2 b1 b2 r1 r2 h1 h2 h3 h4 h5 h6 h7 h8 h9 => ?_⟩
    · have e1 : ∀ l : List (Nat × Blk), lk ((k, (⟨.li es [x'], 0, ln⟩ : Blk)) :: l) k' = none → k' ≠ k ∧ lk l k' = none := by
        intro l h
        simp only [lk] at h
        split at h
        · cases h
        · exact ⟨by assumption, h⟩
      exact q1.dom k' (e1 _ hk').2
    · simp only [lk] at hk'
      split at hk'
      · rename_i e1
        subst e1
        injection hk' with hk'
        subst hk'
        refine ⟨r, hr, fun _ => ⟨hB.es, hB.len, hB.max, ?_, fun h => by simp at h, fun h1 h2 => ?_⟩⟩
        · intro i hi
          have hi0 : i = 0 := by have : i < 1 := hi; omega
          subst hi0
          obtain ⟨p1, p2⟩ := hB.rd 0 (by show 0 < 1; omega)
          have e1 : cAt (.li es [x]) 0 = x := rfl
          have e2 : cAt (.li es [x']) 0 = x' := rfl
          simp only at p1 p2
          rw [e1] at p1 p2
          simp only
          rw [e2, hx']
          refine ⟨by rw [List.length_set]; exact p1, fun j y hy => ?_⟩
          rw [List.getElem?_set] at hy
          split at hy
          · rename_i e3
            subst e3
            split at hy
            · injection hy with hy
              subst hy
              obtain ⟨u, hu, hv⟩ := p2 off _ hx
              have := hv.lit_inv
              subst this
              exact ⟨_, hu, nil_own hc⟩
            · cases hy
          · exact p2 j y hy
        · have := hB.row h1 h2
          exact this
      · rename_i e1
        exact q1.blk k' b' (by simp only [lk]; exact hk')
    · have g : ∀ k1 b1, lk ((k, (⟨.li es [x'], 0, ln⟩ : Blk)) :: (s.ctr, ⟨c, 0, false⟩) :: s.H) k1 = some b1 → ∃ b1', lk ((s.ctr, (⟨c, 0, false⟩ : Blk)) :: s.H) k1 = some b1' ∧ b1'.mode = b1.mode := by
        intro k1 b1 h
        rw [lk] at h
        split at h
        · rename_i e1
          have e1 : k1 = k := e1
          subst e1
          injection h with h
          subst h
          exact ⟨⟨.li es [x], 0, ln⟩, by simp only [lk]; rw [if_neg hne]; exact hb, rfl⟩
        · exact ⟨b1, h, rfl⟩
      obtain ⟨b1', g1, g2⟩ := g _ _ h1
      obtain ⟨b2', g3, g4⟩ := g _ _ h2
      exact q1.inj k1 k2 b1' b2' r1 r2 g1 g3 h3 h4 (by omega) (by omega) h7 h8 h9
end
end Go.TravelAbs
