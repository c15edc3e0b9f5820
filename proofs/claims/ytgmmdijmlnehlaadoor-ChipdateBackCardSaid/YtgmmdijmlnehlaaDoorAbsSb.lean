import Derived.Test.YtgmmdijmlnehlaaDoorAbsDr
namespace Go.TravelAbs
open Go.RowKit Go.TravelBase
set_option linter.unusedVariables false
set_option linter.unusedSimpArgs false
/-! ## A list of an own block is read in another way: what is nil as an empty list -/
def Wk (y y' : AV) : Prop := ∀ (w : World) (S : CSet) (m : RMap) (v : Value), VR w S m y v → VR w S m y' v
theorem Wk.rfl_ (y : AV) : Wk y y := fun _ _ _ _ h => h
theorem Wk.by_ : Wk (.lit (.slice none 0 0)) (.by_ []) := fun w S m v h => sbT_VR (.lit (.slice none 0 0)) (.by_ []) v (by unfold sbT; exact ⟨rfl, rfl⟩) h
theorem Wk.li (es : Nat) (he : 0 < es) : Wk (.lit (.slice none 0 0)) (.li es []) := fun w S m v h => sbT_VR (.lit (.slice none 0 0)) (.li es []) v (by unfold sbT; exact ⟨rfl, rfl, he⟩) h
/-- Cell by cell. -/
def WkC : List AV → List AV → Prop
  | [], ys => ys = []
  | x :: r, ys =>
    match ys with
    | [] => False
    | y :: s => Wk x y ∧ WkC r s
/-- Element by element. -/
def WkL : List AV → List AV → Prop
  | [], ys => ys = []
  | x :: r, ys =>
    match ys with
    | [] => False
    | y :: s => WkC x.cl y.cl ∧ WkL r s
theorem WkC.rfl_ : ∀ (l : List AV), WkC l l
  | [] => rfl
  | x :: r => ⟨Wk.rfl_ x, WkC.rfl_ r⟩
theorem WkL.rfl_ : ∀ (l : List AV), WkL l l
  | [] => rfl
  | x :: r => ⟨WkC.rfl_ _, WkL.rfl_ r⟩
theorem WkL.of_eq {a b : List AV} (h : a = b) : WkL a b := h ▸ WkL.rfl_ a
theorem WkL.app : ∀ {a a' b b' : List AV}, WkL a a' → WkL b b' → WkL (a ++ b) (a' ++ b')
  | [], a', b, b', h, h2 => by
    have h : a' = [] := h
    subst h
    exact h2
  | x :: r, [], b, b', h, h2 => h.elim
  | x :: r, y :: s, b, b', h, h2 => ⟨h.1, WkL.app h.2 h2⟩
theorem WkC.at_ : ∀ {a b : List AV}, WkC a b → a.length = b.length ∧ ∀ (j : Nat) (x y : AV), a[j]? = some x → b[j]? = some y → Wk x y
  | [], b, h => by
    have h : b = [] := h
    subst h
    exact ⟨rfl, fun j x y hx => absurd hx (by simp)⟩
  | x :: r, [], h => h.elim
  | x :: r, y :: s, h => by
    obtain ⟨h1, h2⟩ := WkC.at_ h.2
    refine ⟨by simp [h1], fun j x' y' hx hy => ?_⟩
    match j, hx, hy with
    | 0, hx, hy =>
      simp only [List.getElem?_cons_zero, Option.some.injEq] at hx hy
      subst hx hy
      exact h.1
    | j + 1, hx, hy => exact h2 j x' y' (by simpa using hx) (by simpa using hy)
theorem WkL.at_ : ∀ {a b : List AV}, WkL a b → a.length = b.length ∧ ∀ (j : Nat) (x y : AV), a[j]? = some x → b[j]? = some y → WkC x.cl y.cl
  | [], b, h => by
    have h : b = [] := h
    subst h
    exact ⟨rfl, fun j x y hx => absurd hx (by simp)⟩
  | x :: r, [], h => h.elim
  | x :: r, y :: s, h => by
    obtain ⟨h1, h2⟩ := WkL.at_ h.2
    refine ⟨by simp [h1], fun j x' y' hx hy => ?_⟩
    match j, hx, hy with
    | 0, hx, hy =>
      simp only [List.getElem?_cons_zero, Option.some.injEq] at hx hy
      subst hx hy
      exact h.1
    | j + 1, hx, hy => exact h2 j x' y' (by simpa using hx) (by simpa using hy)
section
variable {P : Program} {X : Cx} {w : World} {Q : Exit → Act → World → Prop}
theorem Rel.sb {s : St} (k : Nat) {es : Nat} {xs xs' : List AV} {md : Nat} {ln : Bool} (hb : lk s.H k = some ⟨.li es xs, md, ln⟩) (hw : WkL xs xs') {a : Act} (hR : Rel X s a w) :
    Rel X ⟨s.tm, (k, ⟨.li es xs', md, ln⟩) :: s.H, s.ctr, s.sz⟩ a w := by
  obtain ⟨S, m, hM, ht⟩ := hR.mem
  obtain ⟨hlen, hat⟩ := hw.at_
  obtain ⟨r, hr, hB⟩ := hM.blk k _ hb
  refine ⟨hR.size, hR.defers, fun k' hk' => ?_, S, m, ?_, ht⟩
  · have h0 := hR.kl k' hk'
    simp only [lk]
    rw [if_neg (by intro e; rw [e, hb] at h0; cases h0)]
    exact h0
  · refine ⟨hM.lm, hM.frm, hM.s0, hM.s1, hM.slt, fun k' hk' => ?_, fun k' b' hk' => ?_, fun k1 k2 b1 b2 r1 r2 h1 h2 h3 h4 h5 h6 h7 h8 h9 => ?_, hM.gl⟩
    · simp only [lk] at hk'
      split at hk'
      · cases hk'
      · exact hM.dom k' hk'
    · simp only [lk] at hk'
      split at hk'
      · rename_i e1
        subst e1
        injection hk' with hk'
        subst hk'
        refine ⟨r, hr, fun hm => ?_⟩
        have hB := hB hm
        refine ⟨hB.es, ?_, hB.max, ?_, ?_, ?_⟩
        · have : xs.length ≤ r.cap := hB.len
          show xs'.length ≤ r.cap
          omega
        · intro i hi
          have hi' : i < xs'.length := hi
          have hi2 : i < xs.length := by omega
          obtain ⟨p1, p2⟩ := hB.rd i hi2
          have e1 : cAt (.li es xs) i = xs[i] := by simp [cAt, List.getD, List.getElem?_eq_getElem hi2]
          have e2 : cAt (.li es xs') i = xs'[i] := by simp [cAt, List.getD, List.getElem?_eq_getElem hi']
          simp only at p1 p2 ⊢
          rw [e1] at p1 p2
          rw [e2]
          obtain ⟨q1, q2⟩ := (hat i _ _ (List.getElem?_eq_getElem hi2) (List.getElem?_eq_getElem hi')).at_
          refine ⟨by rw [← q1]; exact p1, fun j y hy => ?_⟩
          have hj : j < xs[i].cl.length := by rw [q1]; exact (List.getElem?_eq_some_iff.1 hy).1
          obtain ⟨u, hu, hv⟩ := p2 j _ (List.getElem?_eq_getElem hj)
          exact ⟨u, hu, q2 j _ y (List.getElem?_eq_getElem hj) hy _ _ _ _ hv⟩
        · intro h1 o ho
          refine hB.set h1 o ?_
          show o < xs.length * r.es
          rw [hlen]
          exact ho
        · intro h1 h2
          obtain ⟨z1, z2, z3⟩ := hB.row h1 h2
          refine ⟨z1, z2, fun o ho => z3 o ?_⟩
          show md = 0 ∨ xs.length * r.es ≤ o
          rw [hlen]
          exact ho
      · exact hM.blk k' b' hk'
    · have g : ∀ k1 b1, lk ((k, (⟨.li es xs', md, ln⟩ : Blk)) :: s.H) k1 = some b1 → ∃ b1', lk s.H k1 = some b1' ∧ b1'.mode = b1.mode := by
        intro k1 b1 h
        rw [lk] at h
        split at h
        · rename_i e1
          have e1 : k1 = k := e1
          subst e1
          injection h with h
          subst h
          exact ⟨_, hb, rfl⟩
        · exact ⟨b1, h, rfl⟩
      obtain ⟨b1', g1, g2⟩ := g _ _ h1
      obtain ⟨b2', g3, g4⟩ := g _ _ h2
      exact hM.inj k1 k2 b1' b2' r1 r2 g1 g3 h3 h4 (by omega) (by omega) h7 h8 h9
theorem WA.sb {c : Code} {s : St} (k : Nat) {es : Nat} {xs xs' : List AV} {md : Nat} {ln : Bool} (hb : lk s.H k = some ⟨.li es xs, md, ln⟩) (hw : WkL xs xs') (h : WA P X c Q ⟨s.tm, (k, ⟨.li es xs', md, ln⟩) :: s.H, s.ctr, s.sz⟩) : WA P X c Q s :=
  fun a w hR => h a w (hR.sb k hb hw)
/-- The same where the code has ended. -/
theorem sbE {s : St} (k : Nat) {es : Nat} {xs xs' : List AV} {md : Nat} {ln : Bool} (hb : lk s.H k = some ⟨.li es xs, md, ln⟩) (hw : WkL xs xs') (h : ∀ a w, Rel X ⟨s.tm, (k, ⟨.li es xs', md, ln⟩) :: s.H, s.ctr, s.sz⟩ a w → Q .normal a w) : ∀ a w, Rel X s a w → Q .normal a w :=
  fun a w hR => h a w (hR.sb k hb hw)
theorem WN.norm {s : St} (k : Nat) (h : ∀ K : St → Prop, (∀ s', WN X Q s' → K s') → NmR s k K) : WN X Q s := fun a w hR => by
  obtain ⟨s', h1, h2⟩ := Rel.norm (h (fun s' => WN X Q s') (fun _ h => h)) hR
  exact h1 a w h2
theorem WN.normT {s : St} (t : Nat) (h : ∀ K : St → Prop, (∀ s', WN X Q s' → K s') → NtR s t K) : WN X Q s := fun a w hR => by
  obtain ⟨s', h1, h2⟩ := Rel.normT (h (fun s' => WN X Q s') (fun _ h => h)) hR
  exact h1 a w h2
theorem WN.sb {s : St} (k : Nat) {es : Nat} {xs xs' : List AV} {md : Nat} {ln : Bool} (hb : lk s.H k = some ⟨.li es xs, md, ln⟩) (hw : WkL xs xs') (h : WN X Q ⟨s.tm, (k, ⟨.li es xs', md, ln⟩) :: s.H, s.ctr, s.sz⟩) : WN X Q s :=
  fun a w hR => h a w (hR.sb k hb hw)
theorem normKE {s : St} (k : Nat) (h : ∀ K : St → Prop, (∀ s', (∀ a w, Rel X s' a w → Q .normal a w) → K s') → NmR s k K) : ∀ a w, Rel X s a w → Q .normal a w := fun a w hR => by
  obtain ⟨s', h1, h2⟩ := Rel.norm (h (fun s' => ∀ a w, Rel X s' a w → Q .normal a w) (fun _ h => h)) hR
  exact h1 a w h2
end
end Go.TravelAbs
