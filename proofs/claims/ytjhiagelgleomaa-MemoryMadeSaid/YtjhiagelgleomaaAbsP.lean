import Derived.Test.YtjhiagelgleomaaAbsO
import Derived.Orders
namespace Go.TravelAbs
open Go.RowKit Go.TravelBase
set_option linter.unusedVariables false
set_option linter.unusedSimpArgs false

/-! ## Arguments -/
def cv1 (H : List (Nat × Blk)) (x : AV) : Option (AV × List (Nat × Blk) × Prop) :=
  match x with
  | .sl k es i n =>
    match lk H k with
    | some b => some (sub b.c i n, if b.mode = 0 then [(k, ⟨b.c, 1, false⟩)] else [], isL b.c = true ∧ (b.mode = 0 ∧ b.ln = false ∨ b.mode = 1) ∧ 0 < es ∧ cE b.c = es ∧ i + n ≤ cN b.c ∧ TrC b.c)
    | none => none
  | x => some (x, [], Tr x)
def cvL (H : List (Nat × Blk)) : List AV → Option (List AV × List (Nat × Blk) × Prop)
  | [] => some ([], [], True)
  | x :: r =>
    match cv1 H x with
    | some (y, e1, v1) =>
      match cvL (e1 ++ H) r with
      | some (ys, e2, v2) => some (y :: ys, e2 ++ e1, v1 ∧ v2)
      | none => none
    | none => none
def cvX (H : List (Nat × Blk)) (x : AV) : Option (AV × List (Nat × Blk) × Prop) :=
  match x with
  | .agg xs =>
    match cvL H xs with
    | some (ys, e, v) => some (.agg ys, e, v)
    | none => none
  | x => cv1 H x
def cvA (H : List (Nat × Blk)) : List AV → Nat → Option (List AV × List Nat × List (Nat × Blk) × Prop)
  | [], _ => some ([], [], [], True)
  | x :: r, p =>
    match x with
    | .ptr k i off =>
      match cvA H r (p + 1) with
      | some (ys, ks, e, v) => some (.ptr p i off :: ys, k :: ks, e, v)
      | none => none
    | x =>
      match cvX H x with
      | some (y, e1, v1) =>
        match cvA (e1 ++ H) r p with
        | some (ys, ks, e2, v2) => some (y :: ys, ks, e2 ++ e1, v1 ∧ v2)
        | none => none
      | none => none
section
variable {P : Program} {ty : Ty} {X : Cx} {H : List (Nat × Blk)} {S : CSet} {m : RMap} {w : World}
theorem TrC.sub {c : AV} (h : TrC c) (hL : isL c = true) {i n : Nat} (hn : i + n ≤ cN c) : Tr (sub c i n) := by
  cases c with
  | by_ bs => exact Tr.by_ _
  | li es xs =>
    refine Tr.li fun x hx y hy => ?_
    obtain ⟨j, hj, e⟩ := List.getElem_of_mem (List.mem_of_mem_drop (List.mem_of_mem_take hx))
    refine h j hj y ?_
    have : cAt (.li es xs) j = x := by simp [cAt, List.getD, List.getElem?_eq_getElem hj, e]
    rw [this]
    exact hy
  | _ => cases hL
theorem cv1_ok (hM : Mem X H S m w) {x y : AV} {v : Value} {e : List (Nat × Blk)} {vc : Prop} (hv : VR w S m x v) (h : cv1 H x = some (y, e, vc)) (hvc : vc) : ∃ S', Mem X (e ++ H) S' m w ∧ Adv S m w S' m w ∧ VR w S' m y v ∧ Tr y := by
  unfold cv1 at h
  split at h
  · rename_i k es i n
    split at h
    · rename_i b hb
      injection h with h
      simp only [Prod.mk.injEq] at h
      obtain ⟨rfl, rfl, rfl⟩ := h
      obtain ⟨c1, c2, c3, c4, c5, c6⟩ := hvc
      rcases c2 with ⟨c2, c7⟩ | c2
      · rw [if_pos c2]
        obtain ⟨S', q1, q2⟩ := hM.frz hb c2 c7
        exact ⟨S', q1, q2, frozen_VR q1 (k := k) (b := ⟨b.c, 1, false⟩) (by simp [lk]) c1 rfl c3 c4 c5 (hv.adv q2), c6.sub c1 c5⟩
      · rw [if_neg (by omega)]
        exact ⟨S, hM, Adv.refl _ _ _, frozen_VR hM hb c1 c2 c3 c4 c5 hv, c6.sub c1 c5⟩
    · cases h
  · injection h with h
    simp only [Prod.mk.injEq] at h
    obtain ⟨rfl, rfl, rfl⟩ := h
    exact ⟨S, hM, Adv.refl _ _ _, hv, hvc⟩
theorem cvL_ok : ∀ (xs : List AV) (H : List (Nat × Blk)) (S : CSet) (ys : List AV) (e : List (Nat × Blk)) (vc : Prop) (vs : List Value), Mem X H S m w → (∀ (j : Nat) (x : AV) (v : Value), xs[j]? = some x → vs[j]? = some v → VR w S m x v) → vs.length = xs.length → cvL H xs = some (ys, e, vc) → vc →
    ∃ S', Mem X (e ++ H) S' m w ∧ Adv S m w S' m w ∧ ys.length = xs.length ∧ (∀ (j : Nat) (y : AV) (v : Value), ys[j]? = some y → vs[j]? = some v → VR w S' m y v) ∧ ∀ y ∈ ys, Tr y
  | [], H, S, ys, e, vc, vs, hM, _, _, h, _ => by
    simp only [cvL, Option.some.injEq, Prod.mk.injEq] at h
    obtain ⟨rfl, rfl, _⟩ := h
    exact ⟨S, hM, Adv.refl _ _ _, rfl, fun j y v hy => by simp at hy, fun y hy => by cases hy⟩
  | x :: r, H, S, ys, e, vc, vs, hM, hv, hl, h, hvc => by
    simp only [cvL] at h
    split at h
    · rename_i y e1 v1 h1
      split at h
      · rename_i ys' e2 v2 h2
        simp only [Option.some.injEq, Prod.mk.injEq] at h
        obtain ⟨rfl, rfl, rfl⟩ := h
        match vs, hl with
        | v :: vs, hl =>
          obtain ⟨S1, a1, a2, a3, a4⟩ := cv1_ok hM (hv 0 x v rfl rfl) h1 hvc.1
          obtain ⟨S2, b1, b2, b3, b4, b5⟩ := cvL_ok r (e1 ++ H) S1 ys' e2 v2 vs a1 (fun j x u hx hu => (hv (j + 1) x u (by simpa using hx) (by simpa using hu)).adv a2) (by simpa using hl) h2 hvc.2
          refine ⟨S2, by rw [List.append_assoc]; exact b1, a2.trans b2, by simp [b3], fun j y' u hy hu => ?_, fun y' hy => ?_⟩
          · match j, hy, hu with
            | 0, hy, hu =>
              simp only [List.getElem?_cons_zero, Option.some.injEq] at hy hu
              subst hy hu
              exact a3.adv b2
            | j + 1, hy, hu => exact b4 j y' u (by simpa using hy) (by simpa using hu)
          · rcases List.mem_cons.1 hy with rfl | hy
            · exact a4
            · exact b5 y' hy
      · cases h
    · cases h
theorem cvX_ok (hM : Mem X H S m w) {x y : AV} {v : Value} {e : List (Nat × Blk)} {vc : Prop} (hv : VR w S m x v) (h : cvX H x = some (y, e, vc)) (hvc : vc) : ∃ S', Mem X (e ++ H) S' m w ∧ Adv S m w S' m w ∧ VR w S' m y v ∧ Tr y := by
  unfold cvX at h
  split at h
  · rename_i xs
    split at h
    · rename_i ys e' v' h'
      simp only [Option.some.injEq, Prod.mk.injEq] at h
      obtain ⟨rfl, rfl, rfl⟩ := h
      obtain ⟨cs, rfl, hl, hp⟩ := hv.agg_inv
      obtain ⟨S', a1, a2, a3, a4, a5⟩ := cvL_ok xs H S ys e' v' cs.toList hM (fun j x u hx hu => hp j x u hx (by simpa using hu)) (by simpa using hl) h' hvc
      exact ⟨S', a1, a2, .agg (by omega) fun j y u hy hu => a4 j y u hy (by simpa using hu), Tr.agg a5⟩
    · cases h
  · exact cv1_ok hM hv h hvc
theorem cvA_ok : ∀ (xs : List AV) (p : Nat) (H : List (Nat × Blk)) (S : CSet) (ys : List AV) (ks : List Nat) (e : List (Nat × Blk)) (vc : Prop) (vs : List Value), Mem X H S m w → (∀ (j : Nat) (x : AV) (v : Value), xs[j]? = some x → vs[j]? = some v → VR w S m x v) → vs.length = xs.length → cvA H xs p = some (ys, ks, e, vc) → vc →
    ∃ S', Mem X (e ++ H) S' m w ∧ Adv S m w S' m w ∧ ys.length = xs.length ∧ (∀ k ∈ ks, ∃ r, m k = some r) ∧
      ∀ (n : Nat) (rows : Nat → Row), p + ks.length ≤ n → (∀ i k, ks[i]? = some k → m k = some (rows (p + i))) → ∀ (j : Nat) (y : AV) (v : Value), ys[j]? = some y → vs[j]? = some v → VR w S' (mL n rows) y v
  | [], p, H, S, ys, ks, e, vc, vs, hM, _, _, h, _ => by
    simp only [cvA, Option.some.injEq, Prod.mk.injEq] at h
    obtain ⟨rfl, rfl, rfl, _⟩ := h
    exact ⟨S, hM, Adv.refl _ _ _, rfl, (fun k hk => absurd hk (List.not_mem_nil)), (fun n rows _ _ j y v hy => absurd hy (by simp))⟩
  | x :: r, p, H, S, ys, ks, e, vc, vs, hM, hv, hl, h, hvc => by
    match vs, hl with
    | v :: vs, hl =>
      have hl' : vs.length = r.length := by simpa using hl
      have hv0 := hv 0 x v rfl rfl
      simp only [cvA] at h
      split at h
      · rename_i k i off
        split at h
        · rename_i ys' ks' e' v' h1
          simp only [Option.some.injEq, Prod.mk.injEq] at h
          obtain ⟨rfl, rfl, rfl, rfl⟩ := h
          obtain ⟨S1, a1, a2, a3, a4, a5⟩ := cvA_ok r (p + 1) H S ys' ks' e' v' vs hM (fun j x u hx hu => hv (j + 1) x u (by simpa using hx) (by simpa using hu)) hl' h1 hvc
          obtain ⟨row, hr, rfl⟩ := hv0.ptr_inv
          refine ⟨S1, a1, a2, by simp [a3], fun k' hk => ?_, fun n rows hn hrows j y u hy hu => ?_⟩
          · rcases List.mem_cons.1 hk with rfl | hk
            · exact ⟨_, hr⟩
            · exact a4 k' hk
          · simp only [List.length_cons] at hn
            match j, hy, hu with
            | 0, hy, hu =>
              simp only [List.getElem?_cons_zero, Option.some.injEq] at hy hu
              subst hy hu
              have h0 := hrows 0 _ (List.getElem?_cons_zero)
              rw [hr] at h0
              injection h0 with h0
              subst h0
              exact .ptr (r := rows p) (by simp only [mL, Nat.add_zero]; rw [if_pos (by omega)])
            | j + 1, hy, hu =>
              refine a5 n rows (by omega) (fun i k' hk => ?_) j y u (by simpa using hy) (by simpa using hu)
              have := hrows (i + 1) k' (by simpa using hk)
              rw [show p + (i + 1) = p + 1 + i by omega] at this
              exact this
        · cases h
      · split at h
        · rename_i y e1 v1 h1
          split at h
          · rename_i ys' ks' e2 v2 h2
            simp only [Option.some.injEq, Prod.mk.injEq] at h
            obtain ⟨rfl, rfl, rfl, rfl⟩ := h
            obtain ⟨S1, a1, a2, a3, a4⟩ := cvX_ok hM hv0 h1 hvc.1
            obtain ⟨S2, b1, b2, b3, b4, b5⟩ := cvA_ok r p (e1 ++ H) S1 ys' ks' e2 v2 vs a1 (fun j x u hx hu => (hv (j + 1) x u (by simpa using hx) (by simpa using hu)).adv a2) hl' h2 hvc.2
            refine ⟨S2, by rw [List.append_assoc]; exact b1, a2.trans b2, by simp [b3], b4, fun n rows hn hrows j y' u hy hu => ?_⟩
            match j, hy, hu with
            | 0, hy, hu =>
              simp only [List.getElem?_cons_zero, Option.some.injEq] at hy hu
              subst hy hu
              exact a4 _ _ _ _ (a3.adv b2) _
            | j + 1, hy, hu => exact b5 n rows hn hrows j y' u (by simpa using hy) (by simpa using hu)
          · cases h
        · cases h
end
end Go.TravelAbs
