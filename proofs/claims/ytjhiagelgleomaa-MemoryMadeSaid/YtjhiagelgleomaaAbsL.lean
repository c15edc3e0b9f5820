import Derived.Test.YtjhiagelgleomaaAbsK
namespace Go.TravelAbs
open Go.RowKit Go.TravelBase
set_option linter.unusedVariables false
set_option linter.unusedSimpArgs false

section
variable {P : Program} {ty : Ty} {X : Cx} {H : List (Nat × Blk)} {S : CSet} {m : RMap} {w : World}
theorem minmax_ok (hM : Mem X H S m w) {k k' : IntKind} {a b : Int} {u v : Value} (hu : VR w S m (.lit (.int k a)) u) (hv : VR w S m (.lit (.int k' b)) v) (at' : Array TypeId) (T : TypeId) (vc : Prop) :
    Post X H S m w ⟨.lit (.int k (if b < a then b else a)), [], vc⟩ ((do pure (.value (← Builtin.min_ at' T #[u, v])) : Sem Next).run P w) ∧
    Post X H S m w ⟨.lit (.int k (if a < b then b else a)), [], vc⟩ ((do pure (.value (← Builtin.max_ at' T #[u, v])) : Sem Next).run P w) := by
  obtain rfl := hu.lit_inv
  obtain rfl := hv.lit_inv
  exact ⟨Post.pure hM rfl (by simp [Builtin.min_, Builtin.min2]) (.lit _), Post.pure hM rfl (by simp [Builtin.max_, Builtin.max2]) (.lit _)⟩
theorem list1 {α : Type} {a : Array α} {x : α} (h : a.toList = [x]) : a = #[x] := by apply Array.ext'; rw [h]
theorem list2 {α : Type} {a : Array α} {x y : α} (h : a.toList = [x, y]) : a = #[x, y] := by apply Array.ext'; rw [h]
set_option maxHeartbeats 2000000 in
theorem evM_ok (hT : TysOK P ty) (hM : Mem X H S m w) {g : Operand → AV} {ρ : Operand → Value} (hg : ∀ y, VR w S m (g y) (ρ y)) {fr : Nat} (hfr : lk H fr = none) {o : Oper} {out : Out} (h : evM ty H fr g o.op = some out) (hvc : out.vc) :
    Post X H S m w out ((execOp ρ o).run P w) := by
  unfold execOp
  unfold evM at h
  split at h
  · rename_i e hop
    rw [hop]
    split at h
    · rename_i ti ht
      injection h with h
      subst h
      exact alloc_ok hT hM ht hfr hvc
    · cases h
  · rename_i e x hop
    rw [hop]
    split at h
    · rename_i ti ht
      injection h with h
      subst h
      obtain ⟨c1, c2, c3, c4⟩ := hvc
      exact box_ok hM ((hg x).strip c1) hfr c2 c3 c4 _
    · cases h
  · rename_i t a hop
    rw [hop]
    split at h
    · rename_i q1 ti k i off ht hs
      split at h
      · rename_i b hb
        injection h with h
        subst h
        obtain ⟨c1, c2, c3, c4⟩ := hvc
        have hy := (hg a).strip c1
        rw [hs] at hy
        exact ld_ptr hT hM ht hy hb c2 c3 c4 _
      · cases h
    · rename_i q1 ti x off ht hs
      injection h with h
      subst h
      obtain ⟨c1, c2⟩ := hvc
      have hy := (hg a).strip c1
      rw [hs] at hy
      exact ld_ep hT hM ht hy c2 _
    · cases h
  · rename_i t a x hop
    rw [hop]
    split at h
    · rename_i q1 ti k i off ht hs
      split at h
      · rename_i b hb
        injection h with h
        subst h
        obtain ⟨c1, c2, c3, c4, c5, c6, c7, c8, c9⟩ := hvc
        have hy := (hg a).strip c1
        rw [hs] at hy
        exact st_ok hT hM ht hy ((hg x).strip c2) hb c3 c4 c5 c6 c7 c8 c9 _
      · cases h
    · cases h
  · rename_i t parts hop
    rw [hop]
    split at h
    · rename_i fs sz by' zero ht
      injection h with h
      subst h
      obtain ⟨c1, c2, c3⟩ := hvc
      exact build_struct_ok hT hM ht hg c1 c2 c3 _
    · rename_i n e sz by' zero ht
      split at h
      · rename_i te hte
        injection h with h
        subst h
        obtain ⟨c1, c2⟩ := hvc
        exact build_array_ok hT hM ht hte hg c1 c2 _
      · cases h
    · cases h
  · rename_i t len parts hop
    rw [hop]
    split at h
    · rename_i e q1 q2 q3 ht
      split at h
      · rename_i te hte
        injection h with h
        subst h
        obtain ⟨c1, c2, c3, c4, c5, c6, c7⟩ := hvc
        exact buildSlice_ok hT hM (und_slice (hT _ _ ht)) hte hfr hg c1 c2 c3 c4 c5 c6 c7 _
      · cases h
    · cases h
  · rename_i t l c hop
    rw [hop]
    split at h
    · rename_i e q1 q2 q3 k1 x k2 y ht hl hc
      split at h
      · rename_i te hte
        injection h with h
        subst h
        obtain ⟨c1, c2, c3, c4, c5, c6, c7, c8, c9, c10⟩ := hvc
        have hl' := (hg l).strip c1
        rw [hl] at hl'
        have hc' := (hg c).strip c2
        rw [hc] at hc'
        subst c4
        have := make_ok hT hM (und_slice (hT _ _ ht)) hte hfr k1 k2 c3 c5 c6 c7 c8 c9 c10 (cnd (g l) ∧ cnd (g c) ∧ 0 ≤ x ∧ x = x ∧ te.bytes * x ≤ 140737488355328 ∧ x ≤ 9223372036854775807 ∧ te.size = 1 ∧ zOK te = true ∧ te.kind.row = false ∧ (isU8 te = true → te.zero = [.int .u8 0]))
        simp only [hl'.lit_inv, hc'.lit_inv]
        exact this
      · cases h
    · cases h
  · rename_i t x h' m' hop
    rw [hop]
    split at h
    · rename_i e q1 q2 q3 y a b ht ha hb
      split at h
      · rename_i te c vc hte hl
        injection h with h
        subst h
        obtain ⟨c1, c2, c3, c4, c5, c6⟩ := hvc
        obtain ⟨kh, eh⟩ := idx_inv ((hg h').strip c2) ha
        obtain ⟨km, em⟩ := idx_inv ((hg m').strip c3) hb
        subst c4 c5
        have := emp_ok hT hM (und_slice (hT _ _ ht)) hte hfr (asL_ok hM ((hg x).strip c1) hl c6) kh km (cnd (g x) ∧ cnd (g h') ∧ cnd (g m') ∧ (0 : Int) = 0 ∧ (0 : Int) = 0 ∧ vc)
        simp only [Option.map, eh, em]
        exact this
      · cases h
    · cases h
  · rename_i args ats hop
    rw [hop]
    split at h
    · rename_i x t hargs hats
      obtain rfl := list1 hargs
      obtain rfl := list1 hats
      have key : ∀ {out : Out}, Post X H S m w out ((do pure (.value (← Builtin.len_ #[t] o.type #[ρ x])) : Sem Next).run P w) → Post X H S m w out ((do let d ← resolve ρ ⟨.builtin .len, #[x], #[t]⟩ o.type; invoke d.target d.args : Sem Next).run P w) := by
        intro out hp
        simpa [resolve, invoke, builtin] using hp
      refine key ?_
      split at h
      · rename_i e q1 q2 q3 bs ht hs
        injection h with h
        subst h
        have hy := (hg x).strip hvc
        rw [hs] at hy
        exact len_ok hT hM ht hy _ (.inl ⟨_, rfl, .inl ⟨_, rfl, rfl⟩⟩) _ _
      · rename_i e q1 q2 q3 es xs ht hs
        injection h with h
        subst h
        have hy := (hg x).strip hvc
        rw [hs] at hy
        exact len_ok hT hM ht hy _ (.inl ⟨_, rfl, .inr (.inl ⟨_, _, rfl, rfl⟩)⟩) _ _
      · rename_i e q1 q2 q3 k es i n ht hs
        injection h with h
        subst h
        have hy := (hg x).strip hvc
        rw [hs] at hy
        exact len_ok hT hM ht hy _ (.inl ⟨_, rfl, .inr (.inr (.inl ⟨_, _, _, rfl⟩))⟩) _ _
      · rename_i e q1 q2 q3 ht hs
        injection h with h
        subst h
        have hy := (hg x).strip hvc
        rw [hs] at hy
        exact len_ok hT hM ht hy 0 (.inl ⟨_, rfl, .inr (.inr (.inr ⟨rfl, rfl⟩))⟩) _ _
      · rename_i q1 q2 q3 s ht hs
        injection h with h
        subst h
        have hy := (hg x).strip hvc
        rw [hs] at hy
        exact len_ok hT hM ht hy _ (.inr (.inl ⟨rfl, _, rfl, rfl⟩)) _ _
      · rename_i n e q1 q2 q3 ht
        injection h with h
        subst h
        exact len_ok hT hM ht (.any _) _ (.inr (.inr ⟨_, rfl⟩)) _ _
      · cases h
    · cases h
  · rename_i args ats hop
    rw [hop]
    split at h
    · rename_i x y hargs
      obtain rfl := list2 hargs
      split at h
      · rename_i k a k' b hx hy
        injection h with h
        subst h
        have h1 := (hg x).strip hvc.1
        have h2 := (hg y).strip hvc.2
        rw [hx] at h1
        rw [hy] at h2
        have := (minmax_ok (P := P) hM h1 h2 ats o.type (cnd (g x) ∧ cnd (g y))).1
        simpa [resolve, invoke, builtin] using this
      · cases h
    · cases h
  · rename_i args ats hop
    rw [hop]
    split at h
    · rename_i x y hargs
      obtain rfl := list2 hargs
      split at h
      · rename_i k a k' b hx hy
        injection h with h
        subst h
        have h1 := (hg x).strip hvc.1
        have h2 := (hg y).strip hvc.2
        rw [hx] at h1
        rw [hy] at h2
        have := (minmax_ok (P := P) hM h1 h2 ats o.type (cnd (g x) ∧ cnd (g y))).2
        simpa [resolve, invoke, builtin] using this
      · cases h
    · cases h
  · rename_i args ats hop
    rw [hop]
    split at h
    · rename_i s x t u hargs hats
      obtain rfl := list2 hargs
      obtain rfl := list2 hats
      have key : ∀ {out : Out}, Post X H S m w out ((do pure (.value (← Builtin.append_ #[t, u] o.type #[ρ s, ρ x])) : Sem Next).run P w) → Post X H S m w out ((do let d ← resolve ρ ⟨.builtin .append, #[s, x], #[t, u]⟩ o.type; invoke d.target d.args : Sem Next).run P w) := by
        intro out hp
        simpa [resolve, invoke, builtin] using hp
      refine key ?_
      split at h
      · rename_i e q1 q2 q3 e' q4 q5 q6 c vc ht hu hl
        split at h
        · rename_i te hte hs
          injection h with h
          subst h
          obtain ⟨c1, c2, c3, c4, c5, c6, c7, c8, c9, c10⟩ := hvc
          have h1 := (hg s).strip c1
          rw [hs] at h1
          have h2 := asL_ok hM ((hg x).strip c2) hl c3
          have := append_nil_ok hT hM (und_slice (hT _ _ ht)) (und_slice (hT _ _ hu)) hte h2 hfr c4 c5 c6 c7 c8 c9 c10 o.type (cnd (g s) ∧ cnd (g x) ∧ vc ∧ okL c ∧ catOK (emptyC te) c ∧ (cN c = 0 ∨ cE c = te.size) ∧ cN c * te.bytes ≤ 140737488355328 ∧ cN c ≤ maxLen ∧ cE (emptyC te) = te.size ∧ zOK te = true)
          rw [h1.lit_inv]
          exact this
        · rename_i te k es i n hte hs
          split at h
          · rename_i b hb
            injection h with h
            subst h
            obtain ⟨c1, c2, c3, c4, c5, c6, c7, c8, c9, c10, c11, c12, c13, c14⟩ := hvc
            have h1 := (hg s).strip c1
            rw [hs] at h1
            subst c9
            exact append_sl_ok hT hM (und_slice (hT _ _ ht)) (und_slice (hT _ _ hu)) hte (asL_ok hM ((hg x).strip c2) hl c3) hfr h1 hb c4 c5 c6 c7 c8 c10 c11 c12 c13 c14 o.type _
          · cases h
        · cases h
      · cases h
    · cases h
  · rename_i args ats hop
    rw [hop]
    split at h
    · rename_i s x t u hargs hats
      obtain rfl := list2 hargs
      obtain rfl := list2 hats
      have key : ∀ {out : Out}, Post X H S m w out ((do pure (.value (← Builtin.copy_ #[t, u] o.type #[ρ s, ρ x])) : Sem Next).run P w) → Post X H S m w out ((do let d ← resolve ρ ⟨.builtin .copy, #[s, x], #[t, u]⟩ o.type; invoke d.target d.args : Sem Next).run P w) := by
        intro out hp
        simpa [resolve, invoke, builtin] using hp
      refine key ?_
      split at h
      · rename_i e q1 q2 q3 e' q4 q5 q6 c vc k es i n ht hu hl hs
        split at h
        · rename_i te b hte hb
          injection h with h
          subst h
          obtain ⟨c1, c2, c3, c4, c5, c6, c7, c8, c9, c10⟩ := hvc
          have h1 := (hg s).strip c1
          rw [hs] at h1
          exact copy_ok hT hM (und_slice (hT _ _ ht)) (und_slice (hT _ _ hu)) hte (asL_ok hM ((hg x).strip c2) hl c3) h1 hb c4 c5 c6 c7 c8 c9 c10 o.type _
        · cases h
      · cases h
    · cases h
  · cases h
end
end Go.TravelAbs
