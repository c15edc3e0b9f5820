import Derived.Test.YtjhiagelgleomaaAbsQ
namespace Go.TravelAbs
open Go.RowKit Go.TravelBase
set_option linter.unusedVariables false
set_option linter.unusedSimpArgs false

/-! ## Code -/
/-- The code c, from every world that a state describes. -/
def WA (P : Program) (X : Cx) (c : Code) (Q : Exit → Act → World → Prop) (s : St) : Prop := ∀ a w, Rel X s a w → c.wp P Q a w
section
variable {P : Program} {ty : Ty} {X : Cx} {H : List (Nat × Blk)} {S : CSet} {m : RMap} {w : World} {σ : Sg} {Q : Exit → Act → World → Prop}
theorem WA.skip {s : St} (h : ∀ a w, Rel X s a w → Q .normal a w) : WA P X .skip Q s := fun a w hR => wp_skip (h a w hR)
theorem WA.exit {s : St} {id : Nat} (h : ∀ a w, Rel X s a w → Q (.exit id) a w) : WA P X (.exit id) Q s := fun a w hR => wp_exit (h a w hR)
theorem WA.ret {s : St} (h : ∀ a w, Rel X s a w → Q .ret a w) : WA P X .ret Q s := fun a w hR => wp_ret (h a w hR)
theorem WA.block {s : St} {id : Nat} {c : Code} (h : WA P X c (Exit.inBlock id Q) s) : WA P X (.block id c) Q s := fun a w hR => wp_block (h a w hR)
theorem WA.region {s s' : St} {id : Nat} {ops : Array Oper} {vc : Prop} (hT : TysOK P ty) (hσ : SgOK P σ) (h : evL ty σ (fun j => (ops[j]?).bind (·.dst)) ops.toList s = some (s', vc)) (hvc : vc) (hQ : ∀ a w, Rel X s' a w → Q .normal a w) : WA P X (.region id ops false) Q s :=
  fun a w hR => wp_region_list (evL_ok hT hσ _ s s' vc a w h hvc hR hQ)
theorem WA.seq {s : St} {x y : Code} (h : WA P X x (Exit.then (fun a w => y.wp P Q a w) Q) s) : WA P X (.seq x y) Q s := fun a w hR => wp_seq (h a w hR)
/-- A region ahead of other code. -/
theorem WA.regionS {s s' : St} {id : Nat} {ops : Array Oper} {vc : Prop} {y : Code} (hT : TysOK P ty) (hσ : SgOK P σ) (h : evL ty σ (fun j => (ops[j]?).bind (·.dst)) ops.toList s = some (s', vc)) (hvc : vc) (hy : WA P X y Q s') : WA P X (.seq (.region id ops false) y) Q s :=
  WA.seq (WA.region hT hσ h hvc hy)
/-- Code, then code: the state between. -/
theorem WA.seqS {s s' : St} {x y : Code} (hx : WA P X x (Exit.then (fun a w => Rel X s' a w) Q) s) (hy : WA P X y Q s') : WA P X (.seq x y) Q s :=
  WA.seq fun a w hR => wp_mono (hx a w hR) fun e a w h => by cases e <;> first | exact hy a w h | exact h
theorem WA.cond {s : St} {c : Operand} {x y : Code} {b : Bool} (hc : opnd s.tm c = .lit (.bool b)) (ht : b = true → WA P X x Q s) (hf : b = false → WA P X y Q s) : WA P X (.cond c x y) Q s := fun a w hR => by
  obtain ⟨S, m, _, h⟩ := hR.mem
  have := opnd_VR h c
  rw [hc] at this
  exact wp_cond_split this.lit_inv (fun e => ht e a w hR) fun e => hf e a w hR
theorem least {p : Nat → Prop} (h : ∃ n, p n) : ∃ n, p n ∧ ∀ m, p m → n ≤ m := by
  obtain ⟨n, hn⟩ := h
  induction n using Nat.strongRecOn with
  | _ n ih =>
    by_cases h : ∃ m, m < n ∧ p m
    · obtain ⟨m, h1, h2⟩ := h
      exact ih m h1 h2
    · exact ⟨n, hn, fun m hm => Nat.not_lt.1 fun hlt => h ⟨m, hlt, hm⟩⟩
/-- A loop: a state for each round. -/
theorem WA.loop {I : Type} {c : Code} (st : I → St) (μ : I → Nat) (inv : I → Prop) {i0 : I} (h0 : inv i0) (hr : ∀ i, inv i → WA P X c (Exit.then (fun a w => ∃ j, inv j ∧ μ j < μ i ∧ Rel X (st j) a w) Q) (st i)) : WA P X (.loop c) Q (st i0) := by
  intro a w hR
  let In : Act → World → Prop := fun a w => ∃ i, inv i ∧ Rel X (st i) a w
  have hle : ∀ a w, ∃ n, In a w → (∃ i, inv i ∧ Rel X (st i) a w ∧ μ i = n) ∧ ∀ i, inv i → Rel X (st i) a w → n ≤ μ i := by
    intro a w
    by_cases h : In a w
    · obtain ⟨n, ⟨i, h1, h2, h3⟩, h4⟩ := least (p := fun n => ∃ i, inv i ∧ Rel X (st i) a w ∧ μ i = n) (by obtain ⟨i, h1, h2⟩ := h; exact ⟨_, i, h1, h2, rfl⟩)
      exact ⟨n, fun _ => ⟨⟨i, h1, h2, h3⟩, fun j h5 h6 => h4 _ ⟨j, h5, h6, rfl⟩⟩⟩
    · exact ⟨0, fun h' => absurd h' h⟩
  refine wp_loop In (fun a w => Classical.choose (hle a w)) ⟨i0, h0, hR⟩ fun a w hI => ?_
  obtain ⟨⟨i, h1, h2, h3⟩, _⟩ := Classical.choose_spec (hle a w) hI
  refine wp_mono (hr i h1 a w h2) fun e a' w' h => ?_
  cases e with
  | normal =>
    obtain ⟨j, h5, h6, h7⟩ := h
    have hI' : In a' w' := ⟨j, h5, h7⟩
    refine ⟨hI', ?_⟩
    have := (Classical.choose_spec (hle a' w') hI').2 j h5 h7
    show Classical.choose (hle a' w') < Classical.choose (hle a w)
    omega
  | _ => exact h
/-! ## Weakening -/
/-- The value y says no more than y0, blocks under new names. -/
def Rn (ρ : Nat → Nat) (H : List (Nat × Blk)) (y0 y : AV) : Prop :=
  y = .any ∨ (y0 = y ∧ Tr y) ∨ (∃ k es i n, y = .sl k es i n ∧ y0 = .sl (ρ k) es i n ∧ (lk H k).isSome = true) ∨ (∃ k i off, y = .ptr k i off ∧ y0 = .ptr (ρ k) i off ∧ (lk H k).isSome = true)
theorem Rn.any {ρ : Nat → Nat} {H : List (Nat × Blk)} {y0 : AV} : Rn ρ H y0 .any := .inl rfl
theorem Rn.tr {ρ : Nat → Nat} {H : List (Nat × Blk)} {y : AV} (h : Tr y) : Rn ρ H y y := .inr (.inl ⟨rfl, h⟩)
theorem Rn.sl {ρ : Nat → Nat} {H : List (Nat × Blk)} {k k0 es i n : Nat} (h : ρ k = k0) (hs : (lk H k).isSome = true) : Rn ρ H (.sl k0 es i n) (.sl k es i n) := .inr (.inr (.inl ⟨k, es, i, n, rfl, by rw [h], hs⟩))
theorem Rn.ptr {ρ : Nat → Nat} {H : List (Nat × Blk)} {k k0 i off : Nat} (h : ρ k = k0) (hs : (lk H k).isSome = true) : Rn ρ H (.ptr k0 i off) (.ptr k i off) := .inr (.inr (.inr ⟨k, i, off, rfl, by rw [h], hs⟩))
theorem Rn.VR {ρ : Nat → Nat} {H' : List (Nat × Blk)} {y0 y : AV} (h : Rn ρ H' y0 y) {m' : RMap} (hm : ∀ k b, lk H' k = some b → m' k = m (ρ k)) {v : Value} (hv : VR w S m y0 v) : VR w S m' y v := by
  rcases h with rfl | ⟨rfl, h⟩ | ⟨k, es, i, n, rfl, rfl, h⟩ | ⟨k, i, off, rfl, rfl, h⟩
  · exact .any v
  · exact h _ _ _ _ hv m'
  · obtain ⟨b, hb⟩ := Option.isSome_iff_exists.1 h
    obtain ⟨r, A, h1, h2, h3, h4, h5, h6, rfl⟩ := hv.sl_inv
    exact .sl ((hm k b hb).trans h1) h2 h3 h4 h5 h6
  · obtain ⟨b, hb⟩ := Option.isSome_iff_exists.1 h
    obtain ⟨r, h1, rfl⟩ := hv.ptr_inv
    exact .ptr ((hm k b hb).trans h1)
/-- The block b says no more than b0. -/
structure RnB (ρ : Nat → Nat) (H : List (Nat × Blk)) (b0 b : Blk) : Prop where
  mode : b0.mode = b.mode
  ln : b0.ln = b.ln
  es : cE b0.c = cE b.c
  n : cN b0.c = cN b.c
  at_ : ∀ i, i < cN b.c → (cAt b.c i).cl.length = (cAt b0.c i).cl.length ∧ ∀ (j : Nat) (y0 y : AV), (cAt b0.c i).cl[j]? = some y0 → (cAt b.c i).cl[j]? = some y → Rn ρ H y0 y
theorem RnB.tr {ρ : Nat → Nat} {H : List (Nat × Blk)} {b : Blk} (h : TrC b.c) : RnB ρ H b b :=
  ⟨rfl, rfl, rfl, rfl, fun i hi => ⟨rfl, fun j y0 y h1 h2 => by rw [h1] at h2; injection h2 with h2; subst h2; exact .tr (h i hi _ (List.mem_of_getElem? h1))⟩⟩
theorem Mem.weak (hM : Mem X H S m w) (ρ : Nat → Nat) {H' : List (Nat × Blk)} (hl : ∀ p, p < X.nl → ρ p = p ∧ (lk H' p).isSome = true) (hinj : ∀ k k' b b', lk H' k = some b → lk H' k' = some b' → b.mode ≤ 1 → b'.mode ≤ 1 → ρ k = ρ k' → k = k') (hH : ∀ k b, lk H' k = some b → ∃ b0, lk H (ρ k) = some b0 ∧ RnB ρ H' b0 b) :
    ∃ m', Mem X H' S m' w ∧ ∀ k b, lk H' k = some b → m' k = m (ρ k) := by
  let m' : RMap := fun k => if (lk H' k).isSome = true then m (ρ k) else none
  have hm' : ∀ k b, lk H' k = some b → m' k = m (ρ k) := fun k b hk => by simp [m', hk]
  refine ⟨m', ⟨fun p hp => ?_, hM.frm, hM.s0, hM.s1, hM.slt, fun k hk => by simp [m', hk], fun k b hk => ?_, fun k k' b b' r r' h1 h2 h3 h4 h5 h6 h7 h8 h9 => ?_⟩, hm'⟩
  · obtain ⟨h1, h2⟩ := hl p hp
    simp only [m', h2, if_true, h1]
    exact hM.lm p hp
  · obtain ⟨b0, e1, e2⟩ := hH k b hk
    obtain ⟨r, f1, f2⟩ := hM.blk _ _ e1
    have he := e2.es
    have hn := e2.n
    have hmd := e2.mode
    refine ⟨r, (hm' k b hk).trans f1, fun hlt => ?_⟩
    have hB := f2 (by omega)
    refine ⟨hB.es.trans he, by rw [← hn]; exact hB.len, hB.max, fun i hi => ?_, fun q o ho => hB.set (by omega) o (by rw [hn]; exact ho), fun q hc => ?_⟩
    · obtain ⟨g1, g2⟩ := e2.at_ i hi
      obtain ⟨g3, g4⟩ := hB.rd i (by omega)
      refine ⟨g1.trans g3, fun j y hy => ?_⟩
      have hj : j < (cAt b0.c i).cl.length := by rw [← g1]; exact (List.getElem?_eq_some_iff.1 hy).1
      have hy0 := List.getElem?_eq_getElem hj
      obtain ⟨u, g7, g8⟩ := g4 j _ hy0
      exact ⟨u, g7, (g2 j _ y hy0 hy).VR hm' g8⟩
    · obtain ⟨g1, g2, g3⟩ := hB.row (by omega) hc
      exact ⟨by rw [← e2.ln]; exact g1, g2, fun o ho => g3 o (by rw [hmd, hn]; exact ho)⟩
  · obtain ⟨b0, e1, e2⟩ := hH k b h1
    obtain ⟨b0', e1', e2'⟩ := hH k' b' h2
    rw [hm' k b h1] at h3
    rw [hm' k' b' h2] at h4
    have q1 := e2.mode
    have q2 := e2'.mode
    exact hinj k k' b b' h1 h2 h5 h6 (hM.inj _ _ b0 b0' r r' e1 e1' h3 h4 (by omega) (by omega) h7 h8 h9)
theorem lk_mem {α : Type} : ∀ {l : List (Nat × α)} {k : Nat} {x : α}, lk l k = some x → (k, x) ∈ l
  | [], k, x, h => by cases h
  | y :: l, k, x, h => by
    simp only [lk] at h
    split at h
    · rename_i e
      injection h with h
      subst e h
      simp
    · exact List.mem_cons_of_mem _ (lk_mem h)
theorem Rel.weak {s : St} {a : Act} {w : World} (h : Rel X s a w) {s' : St} (ρ : Nat → Nat) (hsz : s'.sz = s.sz) (hkl : ∀ e ∈ s'.H, e.1 < s'.ctr) (hl : ∀ p, p < X.nl → ρ p = p ∧ (lk s'.H p).isSome = true)
    (hinj : ∀ e ∈ s'.H, ∀ e' ∈ s'.H, e.2.mode ≤ 1 → e'.2.mode ≤ 1 → ρ e.1 = ρ e'.1 → e.1 = e'.1) (hH : ∀ e ∈ s'.H, ∃ b0, lk s.H (ρ e.1) = some b0 ∧ RnB ρ s'.H b0 e.2) (ht : ∀ e ∈ s'.tm, Rn ρ s'.H (gt s.tm e.1) e.2) : Rel X s' a w := by
  obtain ⟨S, m, hM, htm⟩ := h.mem
  obtain ⟨m', hM', hm'⟩ := hM.weak ρ hl (fun k k' b b' h1 h2 => hinj _ (lk_mem h1) _ (lk_mem h2)) (fun k b hk => hH _ (lk_mem hk))
  refine ⟨h.size.trans hsz.symm, h.defers, fun k hk => ?_, S, m', hM', fun t => ?_⟩
  · cases hq : lk s'.H k with
    | none => rfl
    | some b => have := hkl _ (lk_mem hq); simp only at this; omega
  · unfold gt
    cases hq : lk s'.tm t with
    | none => exact .any _
    | some y => exact (ht _ (lk_mem hq)).VR hm' (htm t)
end
end Go.TravelAbs
