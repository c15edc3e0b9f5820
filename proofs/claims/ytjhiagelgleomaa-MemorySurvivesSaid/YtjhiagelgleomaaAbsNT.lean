import Derived.Test.YtjhiagelgleomaaAbsAB
namespace Go.TravelAbs
open Go.RowKit Go.TravelBase
set_option linter.unusedVariables false
set_option linter.unusedSimpArgs false

/-! ## A slice of the call's own in a slot: it is settled and read as a tree -/
def NtR (s : St) (t : Nat) (K : St → Prop) : Prop :=
  match cvX s.H (gt s.tm t) with
  | some (y, e, v) => v ∧ K ⟨(t, y) :: s.tm, e ++ s.H, s.ctr, s.sz⟩
  | none => False
section
variable {P : Program} {ty : Ty} {X : Cx} {H : List (Nat × Blk)} {S : CSet} {m : RMap} {w : World} {σ : Sg} {Q : Exit → Act → World → Prop}
theorem Rel.normT {s : St} {t : Nat} {K : St → Prop} (h : NtR s t K) {a : Act} {w : World} (hR : Rel X s a w) : ∃ s', K s' ∧ Rel X s' a w := by
  unfold NtR at h
  split at h
  · rename_i y e v hcv
    obtain ⟨S, m, hM, ht⟩ := hR.mem
    obtain ⟨S', a1, a2, a3, a4⟩ := cvX_ok hM (ht t) hcv h.1
    refine ⟨_, h.2, hR.size, hR.defers, fun k hk => Mem.dom' hM a1 (hR.kl k hk), S', m, a1, fun t' => ?_⟩
    by_cases e1 : t' = t
    · subst e1
      have e2 : gt ((t', y) :: s.tm) t' = y := by simp [gt, lk]
      show VR w S' m (gt ((t', y) :: s.tm) t') _
      rw [e2]
      exact a3
    · have e2 : gt ((t, y) :: s.tm) t' = gt s.tm t' := by simp [gt, lk, e1]
      show VR w S' m (gt ((t, y) :: s.tm) t') _
      rw [e2]
      exact (ht t').adv a2
  · exact h.elim
theorem WA.normT {c : Code} {s : St} (t : Nat) (h : ∀ K : St → Prop, (∀ s', WA P X c Q s' → K s') → NtR s t K) : WA P X c Q s := fun a w hR => by
  obtain ⟨s', h1, h2⟩ := Rel.normT (h (fun s' => WA P X c Q s') (fun _ h => h)) hR
  exact h1 a w h2
theorem normE {s : St} (t : Nat) (h : ∀ K : St → Prop, (∀ s', (∀ a w, Rel X s' a w → Q .normal a w) → K s') → NtR s t K) : ∀ a w, Rel X s a w → Q .normal a w := fun a w hR => by
  obtain ⟨s', h1, h2⟩ := Rel.normT (h (fun s' => ∀ a w, Rel X s' a w → Q .normal a w) (fun _ h => h)) hR
  exact h1 a w h2
end
attribute [go_sem] NtR
end Go.TravelAbs
