import Derived.Test.YtjhiagelgleomaaAbsY
namespace Go.TravelAbs
open Go.RowKit Go.TravelBase
set_option linter.unusedVariables false
set_option linter.unusedSimpArgs false

/-! ## A block whose elements hold slices of the call's own: these are settled -/
def cvM (H : List (Nat × Blk)) : List AV → Option (List AV × List (Nat × Blk) × Prop)
  | [] => some ([], [], True)
  | x :: r =>
    match cvX H x with
    | some (y, e1, v1) =>
      match cvM (e1 ++ H) r with
      | some (ys, e2, v2) => some (y :: ys, e2 ++ e1, v1 ∧ v2)
      | none => none
    | none => none
def NmR (s : St) (k : Nat) (K : St → Prop) : Prop :=
  match lk s.H k with
  | some b =>
    match b.c with
    | .li es xs =>
      match cvM s.H xs with
      | some (xs', e, v) => (v ∧ b.mode < 3 ∧ lk (e ++ s.H) k = some b) ∧ K ⟨s.tm, (k, ⟨.li es xs', b.mode, b.ln⟩) :: (e ++ s.H), s.ctr, s.sz⟩
      | none => False
    | _ => False
  | none => False
section
variable {P : Program} {ty : Ty} {X : Cx} {H : List (Nat × Blk)} {S : CSet} {m : RMap} {w : World} {σ : Sg} {Q : Exit → Act → World → Prop}
theorem cl_one {x : AV} (h : ∀ ys, x ≠ .agg ys) : x.cl = [x] := by
  cases x <;> first | rfl | exact absurd rfl (h _)
theorem cv1_cl {x y : AV} {e : List (Nat × Blk)} {vc : Prop} (h : cv1 H x = some (y, e, vc)) (hvc : vc) (hx : x.cl = [x]) : y.cl = [y] := by
  unfold cv1 at h
  split at h
  · split at h
    · simp only [Option.some.injEq, Prod.mk.injEq] at h
      obtain ⟨rfl, rfl, rfl⟩ := h
      rename_i b hb
      obtain ⟨c1, _⟩ := hvc
      cases hc : b.c <;> rw [hc] at c1 <;> first | rfl | cases c1
    · cases h
  · simp only [Option.some.injEq, Prod.mk.injEq] at h
    obtain ⟨rfl, rfl, rfl⟩ := h
    exact hx
theorem cvE_ok (hM : Mem X H S m w) {x y : AV} {vs : List Value} {e : List (Nat × Blk)} {vc : Prop} (hl : vs.length = x.cl.length) (hv : ∀ (j : Nat) (z : AV) (v : Value), x.cl[j]? = some z → vs[j]? = some v → VR w S m z v) (h : cvX H x = some (y, e, vc)) (hvc : vc) :
    ∃ S', Mem X (e ++ H) S' m w ∧ Adv S m w S' m w ∧ y.cl.length = x.cl.length ∧ ∀ (j : Nat) (z : AV) (v : Value), y.cl[j]? = some z → vs[j]? = some v → VR w S' m z v := by
  unfold cvX at h
  split at h
  · rename_i xs
    split at h
    · rename_i ys e' v' h'
      simp only [Option.some.injEq, Prod.mk.injEq] at h
      obtain ⟨rfl, rfl, rfl⟩ := h
      obtain ⟨S', a1, a2, a3, a4, _⟩ := cvL_ok xs H S ys e' v' vs hM hv hl h' hvc
      exact ⟨S', a1, a2, a3, a4⟩
    · cases h
  · rename_i hne
    have hx : x.cl = [x] := cl_one hne
    rw [hx] at hl hv ⊢
    match vs, hl with
    | [v], _ =>
      obtain ⟨S', a1, a2, a3, _⟩ := cv1_ok hM (hv 0 x v rfl rfl) h hvc
      have hy := cv1_cl h hvc hx
      refine ⟨S', a1, a2, by rw [hy]; rfl, fun j z u hz hu => ?_⟩
      rw [hy] at hz
      match j, hz, hu with
      | 0, hz, hu =>
        simp only [List.getElem?_cons_zero, Option.some.injEq] at hz hu
        subst hz hu
        exact a3
      | j + 1, hz, _ => simp at hz
theorem cvM_ok : ∀ (xs : List AV) (H : List (Nat × Blk)) (S : CSet) (ys : List AV) (e : List (Nat × Blk)) (vc : Prop) (us : Nat → List Value), Mem X H S m w → (∀ (i : Nat) (x : AV), xs[i]? = some x → (us i).length = x.cl.length ∧ ∀ (j : Nat) (z : AV) (v : Value), x.cl[j]? = some z → (us i)[j]? = some v → VR w S m z v) → cvM H xs = some (ys, e, vc) → vc →
    ∃ S', Mem X (e ++ H) S' m w ∧ Adv S m w S' m w ∧ ys.length = xs.length ∧ ∀ (i : Nat) (y : AV), ys[i]? = some y → (us i).length = y.cl.length ∧ ∀ (j : Nat) (z : AV) (v : Value), y.cl[j]? = some z → (us i)[j]? = some v → VR w S' m z v
  | [], H, S, ys, e, vc, us, hM, _, h, _ => by
    simp only [cvM, Option.some.injEq, Prod.mk.injEq] at h
    obtain ⟨rfl, rfl, _⟩ := h
    exact ⟨S, hM, Adv.refl _ _ _, rfl, fun i y hy => by simp at hy⟩
  | x :: r, H, S, ys, e, vc, us, hM, hv, h, hvc => by
    simp only [cvM] at h
    split at h
    · rename_i y e1 v1 h1
      split at h
      · rename_i ys' e2 v2 h2
        simp only [Option.some.injEq, Prod.mk.injEq] at h
        obtain ⟨rfl, rfl, rfl⟩ := h
        obtain ⟨l0, p0⟩ := hv 0 x rfl
        obtain ⟨S1, a1, a2, a3, a4⟩ := cvE_ok hM l0 p0 h1 hvc.1
        obtain ⟨S2, b1, b2, b3, b4⟩ := cvM_ok r (e1 ++ H) S1 ys' e2 v2 (fun i => us (i + 1)) a1 (fun i x' hx => by
          obtain ⟨q1, q2⟩ := hv (i + 1) x' (by simpa using hx)
          exact ⟨q1, fun j z v hz hv' => (q2 j z v hz hv').adv a2⟩) h2 hvc.2
        refine ⟨S2, by rw [List.append_assoc]; exact b1, a2.trans b2, by simp [b3], fun i y' hy => ?_⟩
        match i, hy with
        | 0, hy =>
          simp only [List.getElem?_cons_zero, Option.some.injEq] at hy
          subst hy
          exact ⟨l0.trans a3.symm, fun j z v hz hu => (a4 j z v hz hu).adv b2⟩
        | i + 1, hy => exact b4 i y' (by simpa using hy)
      · cases h
    · cases h
theorem Rel.norm {s : St} {k : Nat} {K : St → Prop} (h : NmR s k K) {a : Act} {w : World} (hR : Rel X s a w) : ∃ s', K s' ∧ Rel X s' a w := by
  unfold NmR at h
  split at h
  · rename_i b hb
    split at h
    · rename_i es xs hc
      split at h
      · rename_i xs' e v hcv
        obtain ⟨⟨c1, c2, c3⟩, hK⟩ := h
        refine ⟨_, hK, ?_⟩
        obtain ⟨S, m, hM, ht⟩ := hR.mem
        obtain ⟨r, hr, hB⟩ := hM.blk k b hb
        have hB := hB c2
        have hes : r.es = es := by have := hB.es; rw [hc] at this; exact this
        have hrd := hB.rd
        rw [hc] at hrd
        have hcell : ∀ (i : Nat) (x : AV), xs[i]? = some x → x.cl.length = es ∧ ∀ j y, x.cl[j]? = some y → ∃ u, w.cell? ⟨r.g, i * es + j, none⟩ = some u ∧ VR w S m y u := by
          intro i x hx
          have hlt := (List.getElem?_eq_some_iff.1 hx).1
          have := hrd i hlt
          have e1 : cAt (.li es xs) i = x := by simp [cAt, List.getD, hx]
          rw [e1, hes] at this
          exact this
        let us : Nat → List Value := fun i => (List.range es).map fun j => (w.cell? ⟨r.g, i * es + j, none⟩).getD undef
        obtain ⟨S', a1, a2, a3, a4⟩ := cvM_ok xs s.H S xs' e v us hM (fun i x hx => by
          obtain ⟨q1, q2⟩ := hcell i x hx
          refine ⟨by simp [us, q1], fun j z v hz hv => ?_⟩
          obtain ⟨u, hu, hvr⟩ := q2 j z hz
          have hj : j < es := by rw [← q1]; exact (List.getElem?_eq_some_iff.1 hz).1
          simp only [us, List.getElem?_map, List.getElem?_range hj, Option.map_some, hu, Option.getD_some, Option.some.injEq] at hv
          rw [← hv]
          exact hvr) hcv c1
        obtain ⟨r', hr', hB'⟩ := a1.blk k b c3
        have : r' = r := by rw [hr] at hr'; injection hr' with e; exact e.symm
        subst this
        have hB' := hB' c2
        have hlen : ∀ (i : Nat) (x : AV), xs[i]? = some x → ∀ j, j < es → ∃ u, w.cell? ⟨r'.g, i * es + j, none⟩ = some u := by
          intro i x hx j hj
          obtain ⟨q1, q2⟩ := hcell i x hx
          obtain ⟨u, hu, _⟩ := q2 j (x.cl[j]'(by omega)) (List.getElem?_eq_getElem _)
          exact ⟨u, hu⟩
        have hN : Mem X ((k, ⟨.li es xs', b.mode, b.ln⟩) :: (e ++ s.H)) S' m w := by
          refine ⟨a1.lm, a1.frm, a1.s0, a1.s1, a1.slt, fun k' hk' => ?_, fun k' b' hk' => ?_, fun k1 k2 b1 b2 r1 r2 h1 h2 h3 h4 h5 h6 h7 h8 h9 => ?_⟩
          · simp only [lk] at hk'
            split at hk'
            · cases hk'
            · exact a1.dom k' hk'
          · simp only [lk] at hk'
            split at hk'
            · rename_i e1
              subst e1
              injection hk' with hk'
              subst hk'
              refine ⟨r', hr, fun _ => ⟨hes, ?_, hB'.max, ?_, ?_, ?_⟩⟩
              · have := hB'.len; rw [hc] at this; show xs'.length ≤ r'.cap; rw [a3]; exact this
              · intro i hi
                have hi : i < xs'.length := hi
                have hi' : i < xs.length := by omega
                obtain ⟨q1, q2⟩ := a4 i xs'[i] (List.getElem?_eq_getElem hi)
                have e1 : cAt (.li es xs') i = xs'[i] := by simp [cAt, List.getD, List.getElem?_eq_getElem hi]
                rw [e1]
                have hus : (us i).length = es := by simp [us]
                refine ⟨by rw [← q1, hus, hes], fun j y hy => ?_⟩
                have hj : j < es := by
                  have := (List.getElem?_eq_some_iff.1 hy).1
                  omega
                obtain ⟨u, hu⟩ := hlen i xs[i] (List.getElem?_eq_getElem hi') j hj
                refine ⟨u, by rw [hes]; exact hu, q2 j y u hy ?_⟩
                simp only [us, List.getElem?_map, List.getElem?_range hj, Option.map_some, hu, Option.getD_some]
              · intro h1 o ho
                have hn : cN b.c = xs.length := by rw [hc]; rfl
                exact hB'.set h1 o (by rw [hn, ← a3]; exact ho)
              · intro h1 h2
                obtain ⟨q1, q2, q3⟩ := hB'.row h1 h2
                have hn : cN b.c = xs'.length := by rw [hc, a3]; rfl
                exact ⟨q1, q2, fun o ho => q3 o (by rw [hn]; exact ho)⟩
            · exact a1.blk k' b' hk'
          · have g : ∀ k1 b1, lk ((k, ⟨.li es xs', b.mode, b.ln⟩) :: (e ++ s.H)) k1 = some b1 → ∃ b1', lk (e ++ s.H) k1 = some b1' ∧ b1'.mode = b1.mode := by
              intro k1 b1 h
              simp only [lk] at h
              split at h
              · rename_i e1
                subst e1
                injection h with h
                subst h
                exact ⟨b, c3, rfl⟩
              · exact ⟨b1, h, rfl⟩
            obtain ⟨b1', g1, g2⟩ := g _ _ h1
            obtain ⟨b2', g3, g4⟩ := g _ _ h2
            exact a1.inj k1 k2 b1' b2' r1 r2 g1 g3 h3 h4 (by omega) (by omega) h7 h8 h9
        refine ⟨hR.size, hR.defers, fun k' hk' => ?_, S', m, hN, fun t => (ht t).adv a2⟩
        have h0 := hR.kl k' hk'
        simp only [lk]
        rw [if_neg (by intro e1; subst e1; rw [hb] at h0; cases h0)]
        exact Mem.dom' hM a1 h0
      · exact h.elim
    · exact h.elim
  · exact h.elim
theorem WA.norm {c : Code} {s : St} (k : Nat) (h : ∀ K : St → Prop, (∀ s', WA P X c Q s' → K s') → NmR s k K) : WA P X c Q s := fun a w hR => by
  obtain ⟨s', h1, h2⟩ := Rel.norm (h (fun s' => WA P X c Q s') (fun _ h => h)) hR
  exact h1 a w h2
/-- The lists among the arguments are no longer than lists can be. -/
theorem FnS.len {f : FuncId} {args ls : List AV} {r : AV} {ls' : List AV} (h : (∀ (j es : Nat) (xs : List AV), args[j]? = some (.li es xs) → xs.length ≤ maxLen) → (∀ (j : Nat) (bs : List UInt8), args[j]? = some (.by_ bs) → bs.length ≤ maxLen) → FnS P f args ls r ls') : FnS P f args ls r ls' := by
  intro w S rows vs h1 h2 h3 h4 h5
  refine h (fun j es xs hj => ?_) (fun j bs hj => ?_) w S rows vs h1 h2 h3 h4 h5
  · have hlt : j < vs.size := by rw [h2]; exact (List.getElem?_eq_some_iff.1 hj).1
    have := h3 j _ vs[j] hj (Array.getElem?_eq_getElem hlt)
    cases hv : vs[j] <;> rw [hv] at this <;> cases this
    omega
  · have hlt : j < vs.size := by rw [h2]; exact (List.getElem?_eq_some_iff.1 hj).1
    have := h3 j _ vs[j] hj (Array.getElem?_eq_getElem hlt)
    cases hv : vs[j] <;> rw [hv] at this <;> cases this
    omega
end
end Go.TravelAbs
