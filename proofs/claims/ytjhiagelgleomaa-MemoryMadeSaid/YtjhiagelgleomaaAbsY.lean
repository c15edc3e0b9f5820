import Derived.Test.YtjhiagelgleomaaAbsX
namespace Go.TravelAbs
open Go.RowKit Go.TravelBase
set_option linter.unusedVariables false
set_option linter.unusedSimpArgs false

/-! ## Weakening, as one proposition -/
def rnC (ρ : Nat → Nat) (H : List (Nat × Blk)) (y0 y : AV) : Prop :=
  match y with
  | .any => True
  | .sl k es i n => y0 = .sl (ρ k) es i n ∧ (lk H k).isSome = true
  | .ptr k i off => y0 = .ptr (ρ k) i off ∧ (lk H k).isSome = true
  | y => y0 = y ∧ Tr y
theorem rnC_ok {ρ : Nat → Nat} {H : List (Nat × Blk)} {y0 y : AV} (h : rnC ρ H y0 y) : Rn ρ H y0 y := by
  unfold rnC at h
  split at h
  · exact .any
  · obtain ⟨rfl, h⟩ := h
    exact .sl rfl h
  · obtain ⟨rfl, h⟩ := h
    exact .ptr rfl h
  · obtain ⟨rfl, h⟩ := h
    exact .tr h
def kltL (c : Nat) : List (Nat × Blk) → Prop
  | [] => True
  | x :: r => x.1 < c ∧ kltL c r
def lntL (ρ : Nat → Nat) (H : List (Nat × Blk)) : Nat → Prop
  | 0 => True
  | n + 1 => (ρ n = n ∧ (lk H n).isSome = true) ∧ lntL ρ H n
def ninL (ρ : Nat → Nat) (k : Nat) : List (Nat × Blk) → Prop
  | [] => True
  | x :: r => ρ k ≠ ρ x.1 ∧ ninL ρ k r
def injL (ρ : Nat → Nat) : List (Nat × Blk) → Prop
  | [] => True
  | x :: r => ninL ρ x.1 r ∧ injL ρ r
def rnL (ρ : Nat → Nat) (H : List (Nat × Blk)) : List AV → List AV → Prop
  | [], ys => ys = []
  | x :: r, ys =>
    match ys with
    | [] => False
    | y :: s => rnC ρ H x y ∧ rnL ρ H r s
def rnE (ρ : Nat → Nat) (H : List (Nat × Blk)) : List AV → List AV → Prop
  | [], ys => ys = []
  | x :: r, ys =>
    match ys with
    | [] => False
    | y :: s => rnL ρ H x.cl y.cl ∧ rnE ρ H r s
def rnCC (ρ : Nat → Nat) (H : List (Nat × Blk)) (c0 c : AV) : Prop :=
  match c0 with
  | .li es0 xs0 =>
    match c with
    | .li es xs => es0 = es ∧ rnE ρ H xs0 xs
    | _ => False
  | _ => False
def rbC (ρ : Nat → Nat) (H : List (Nat × Blk)) (o : Option Blk) (b : Blk) : Prop :=
  match o with
  | some b0 => b0.mode = b.mode ∧ b0.ln = b.ln ∧ ((b0.c = b.c ∧ TrC b.c) ∨ rnCC ρ H b0.c b.c)
  | none => False
def blkL (ρ : Nat → Nat) (H0 H : List (Nat × Blk)) : List (Nat × Blk) → Prop
  | [] => True
  | x :: r => rbC ρ H (lk H0 (ρ x.1)) x.2 ∧ blkL ρ H0 H r
theorem rnL_at {ρ : Nat → Nat} {H : List (Nat × Blk)} : ∀ {xs ys : List AV}, rnL ρ H xs ys → xs.length = ys.length ∧ ∀ (j : Nat) (x y : AV), xs[j]? = some x → ys[j]? = some y → Rn ρ H x y
  | [], ys, h => by
    simp only [rnL] at h
    subst h
    exact ⟨rfl, fun j x y hx => absurd hx (by simp)⟩
  | x :: r, [], h => h.elim
  | x :: r, y :: s, h => by
    obtain ⟨h1, h2⟩ := rnL_at (xs := r) (ys := s) h.2
    refine ⟨by simp [h1], fun j x' y' hx hy => ?_⟩
    match j, hx, hy with
    | 0, hx, hy =>
      simp only [List.getElem?_cons_zero, Option.some.injEq] at hx hy
      subst hx hy
      exact rnC_ok h.1
    | j + 1, hx, hy => exact h2 j x' y' (by simpa using hx) (by simpa using hy)
theorem rnE_at {ρ : Nat → Nat} {H : List (Nat × Blk)} : ∀ {xs ys : List AV}, rnE ρ H xs ys → xs.length = ys.length ∧ ∀ (j : Nat) (x y : AV), xs[j]? = some x → ys[j]? = some y → rnL ρ H x.cl y.cl
  | [], ys, h => by
    simp only [rnE] at h
    subst h
    exact ⟨rfl, fun j x y hx => absurd hx (by simp)⟩
  | x :: r, [], h => h.elim
  | x :: r, y :: s, h => by
    obtain ⟨h1, h2⟩ := rnE_at (xs := r) (ys := s) h.2
    refine ⟨by simp [h1], fun j x' y' hx hy => ?_⟩
    match j, hx, hy with
    | 0, hx, hy =>
      simp only [List.getElem?_cons_zero, Option.some.injEq] at hx hy
      subst hx hy
      exact h.1
    | j + 1, hx, hy => exact h2 j x' y' (by simpa using hx) (by simpa using hy)
theorem rbC_ok {ρ : Nat → Nat} {H : List (Nat × Blk)} {o : Option Blk} {b : Blk} (h : rbC ρ H o b) : ∃ b0, o = some b0 ∧ RnB ρ H b0 b := by
  unfold rbC at h
  split at h
  · rename_i b0
    obtain ⟨h1, h2, h3⟩ := h
    refine ⟨b0, rfl, ?_⟩
    rcases h3 with ⟨h3, h4⟩ | h3
    · have e : b0 = b := by cases b0; cases b; simp_all
      rw [e]
      exact RnB.tr h4
    · unfold rnCC at h3
      split at h3
      · rename_i es0 xs0 e0
        split at h3
        · rename_i es xs e1
          obtain ⟨rfl, h3⟩ := h3
          obtain ⟨q1, q2⟩ := rnE_at h3
          refine ⟨h1, h2, by rw [e0, e1]; rfl, by rw [e0, e1]; exact q1, fun i hi => ?_⟩
          rw [e1] at hi
          have hi : i < xs.length := hi
          rw [e0, e1]
          have g1 : cAt (.li es0 xs) i = xs[i] := by simp [cAt, List.getD, List.getElem?_eq_getElem hi]
          have g0 : cAt (.li es0 xs0) i = xs0[i]'(by omega) := by simp [cAt, List.getD, List.getElem?_eq_getElem (show i < xs0.length by omega)]
          obtain ⟨r1, r2⟩ := rnL_at (q2 i _ _ (List.getElem?_eq_getElem (by omega)) (List.getElem?_eq_getElem hi))
          rw [g0, g1]
          exact ⟨r1.symm, fun j y0 y hy0 hy => r2 j y0 y hy0 hy⟩
        · exact h3.elim
      · exact h3.elim
  · exact h.elim
def tmL (ρ : Nat → Nat) (H : List (Nat × Blk)) (tm0 : List (Nat × AV)) : List (Nat × AV) → Prop
  | [] => True
  | x :: r => rnC ρ H (gt tm0 x.1) x.2 ∧ tmL ρ H tm0 r
def wkC (nl : Nat) (ρ : Nat → Nat) (s s' : St) : Prop :=
  s'.sz = s.sz ∧ kltL s'.ctr s'.H ∧ lntL ρ s'.H nl ∧ injL ρ s'.H ∧ blkL ρ s.H s'.H s'.H ∧ tmL ρ s'.H s.tm s'.tm
theorem kltL_at {c : Nat} : ∀ {l : List (Nat × Blk)}, kltL c l → ∀ e ∈ l, e.1 < c
  | [], _, e, he => by cases he
  | x :: r, h, e, he => by
    rcases List.mem_cons.1 he with rfl | he
    · exact h.1
    · exact kltL_at h.2 e he
theorem lntL_at {ρ : Nat → Nat} {H : List (Nat × Blk)} : ∀ {n : Nat}, lntL ρ H n → ∀ p, p < n → ρ p = p ∧ (lk H p).isSome = true
  | 0, _, p, hp => by omega
  | n + 1, h, p, hp => by
    rcases Nat.lt_or_ge p n with hlt | hge
    · exact lntL_at h.2 p hlt
    · rw [show p = n by omega]; exact h.1
theorem ninL_at {ρ : Nat → Nat} {k : Nat} : ∀ {l : List (Nat × Blk)}, ninL ρ k l → ∀ e ∈ l, ρ k ≠ ρ e.1
  | [], _, e, he => by cases he
  | x :: r, h, e, he => by
    rcases List.mem_cons.1 he with rfl | he
    · exact h.1
    · exact ninL_at h.2 e he
theorem injL_at {ρ : Nat → Nat} : ∀ {l : List (Nat × Blk)}, injL ρ l → ∀ e ∈ l, ∀ e' ∈ l, ρ e.1 = ρ e'.1 → e.1 = e'.1
  | [], _, e, he, _, _, _ => by cases he
  | x :: r, h, e, he, e', he', hq => by
    rcases List.mem_cons.1 he with e1 | e1
    · rcases List.mem_cons.1 he' with e2 | e2
      · rw [e1, e2]
      · exact absurd hq (e1 ▸ ninL_at h.1 _ e2)
    · rcases List.mem_cons.1 he' with e2 | e2
      · exact absurd hq.symm (e2 ▸ ninL_at h.1 _ e1)
      · exact injL_at h.2 e e1 e' e2 hq
theorem blkL_at {ρ : Nat → Nat} {H0 H : List (Nat × Blk)} : ∀ {l : List (Nat × Blk)}, blkL ρ H0 H l → ∀ e ∈ l, ∃ b0, lk H0 (ρ e.1) = some b0 ∧ RnB ρ H b0 e.2
  | [], _, e, he => by cases he
  | x :: r, h, e, he => by
    rcases List.mem_cons.1 he with rfl | he
    · exact rbC_ok h.1
    · exact blkL_at h.2 e he
theorem tmL_at {ρ : Nat → Nat} {H : List (Nat × Blk)} {tm0 : List (Nat × AV)} : ∀ {l : List (Nat × AV)}, tmL ρ H tm0 l → ∀ e ∈ l, rnC ρ H (gt tm0 e.1) e.2
  | [], _, e, he => by cases he
  | x :: r, h, e, he => by
    rcases List.mem_cons.1 he with rfl | he
    · exact h.1
    · exact tmL_at h.2 e he
section
variable {P : Program} {ty : Ty} {X : Cx} {H : List (Nat × Blk)} {S : CSet} {m : RMap} {w : World} {σ : Sg} {Q : Exit → Act → World → Prop}
theorem Rel.wk {s s' : St} {nl : Nat} (hX : X.nl = nl) (ρ : Nat → Nat) (hC : wkC nl ρ s s') {a : Act} {w : World} (h : Rel X s a w) : Rel X s' a w := by
  obtain ⟨h1, h2, h3, h4, h5, h6⟩ := hC
  subst hX
  exact h.weak ρ h1 (kltL_at h2) (lntL_at h3) (fun e he e' he' _ _ hq => injL_at h4 e he e' he' hq) (fun e he => blkL_at h5 e he) (fun e he => rnC_ok (tmL_at h6 e he))
theorem WA.wk {s s' : St} {nl : Nat} {c : Code} (hX : X.nl = nl) (ρ : Nat → Nat) (h : WA P X c Q s') (hC : wkC nl ρ s s') : WA P X c Q s := fun a w hR => h a w (hR.wk hX ρ hC)
/-- A loop, from any state that says as much as the first round's. -/
theorem WA.loopW {I : Type} {c : Code} {s : St} {nl : Nat} (hX : X.nl = nl) (ρ : Nat → Nat) (st : I → St) (μ : I → Nat) (inv : I → Prop) {i0 : I} (h0 : inv i0) (hC : wkC nl ρ s (st i0)) (hr : ∀ i, inv i → WA P X c (Exit.then (fun a w => ∃ j, inv j ∧ μ j < μ i ∧ Rel X (st j) a w) Q) (st i)) : WA P X (.loop c) Q s :=
  WA.wk hX ρ (WA.loop st μ inv h0 hr) hC
/-- The end of a round. -/
theorem roundE {I : Type} {s : St} {nl : Nat} (hX : X.nl = nl) (ρ : Nat → Nat) {st : I → St} {μ : I → Nat} {inv : I → Prop} {i j : I} (hj : inv j) (hm : μ j < μ i) (hC : wkC nl ρ s (st j)) : ∀ a w, Rel X s a w → Exit.then (fun a w => ∃ j, inv j ∧ μ j < μ i ∧ Rel X (st j) a w) Q .normal a w :=
  fun a w hR => ⟨j, hj, hm, hR.wk hX ρ hC⟩
/-- A block inside ends; what follows goes on. -/
theorem blockE {s : St} {id : Nat} {z : Code} (h : WA P X z Q s) : ∀ a w, Rel X s a w → Exit.inBlock id (Exit.then (fun a w => z.wp P Q a w) Q) .normal a w := h
/-- What goes on behind an ending in the ordinary way. -/
def WN (X : Cx) (Q : Exit → Act → World → Prop) (s : St) : Prop := ∀ a w, Rel X s a w → Q .normal a w
theorem WN.mk {s : St} (h : WN X Q s) : ∀ a w, Rel X s a w → Q .normal a w := h
theorem WN.t {s : St} {z : Code} (h : WA P X z Q s) : WN X (Exit.then (fun a w => z.wp P Q a w) Q) s := h
theorem WN.b {s : St} {id : Nat} (h : WN X Q s) : WN X (Exit.inBlock id Q) s := h
theorem WN.round {I : Type} {s : St} {nl : Nat} (hX : X.nl = nl) (ρ : Nat → Nat) {st : I → St} {μ : I → Nat} {inv : I → Prop} {i j : I} (hj : inv j) (hm : μ j < μ i) (hC : wkC nl ρ s (st j)) : WN X (Exit.then (fun a w => ∃ j, inv j ∧ μ j < μ i ∧ Rel X (st j) a w) Q) s :=
  fun a w hR => ⟨j, hj, hm, hR.wk hX ρ hC⟩
theorem WA.skipN {s : St} (h : WN X Q s) : WA P X .skip Q s := WA.skip h
/-- A loop is left. -/
def WX (X : Cx) (id : Nat) (Q : Exit → Act → World → Prop) (s : St) : Prop := ∀ a w, Rel X s a w → Q (.exit id) a w
theorem WA.exitX {s : St} {id : Nat} (h : WX X id Q s) : WA P X (.exit id) Q s := fun a w hR => wp_exit (h a w hR)
theorem WX.t {s : St} {id : Nat} {R : Act → World → Prop} (h : WX X id Q s) : WX X id (Exit.then R Q) s := h
theorem WX.b {s : St} {id : Nat} {z : Code} (h : WA P X z Q s) : WX X id (Exit.inBlock id (Exit.then (fun a w => z.wp P Q a w) Q)) s := fun a w hR => by
  have := h a w hR
  simpa [Exit.then, Exit.inBlock] using this
theorem WX.n {s : St} {id id' : Nat} (hne : (id == id') = false) (h : WX X id Q s) : WX X id (Exit.inBlock id' Q) s := fun a w hR => by
  have := h a w hR
  have hne' : ¬ id = id' := by simpa using hne
  simpa [Exit.inBlock, hne'] using this
/-- A round ends by leaving a block inside. -/
theorem WX.e {s : St} {id : Nat} {R : Act → World → Prop} (h : ∀ a w, Rel X s a w → R a w) : WX X id (Exit.inBlock id (Exit.then R Q)) s := fun a w hR => by
  have := h a w hR
  simpa [Exit.then, Exit.inBlock] using this
end
end Go.TravelAbs
