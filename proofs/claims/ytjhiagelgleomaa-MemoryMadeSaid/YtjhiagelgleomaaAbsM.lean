import Derived.Test.YtjhiagelgleomaaAbsL
namespace Go.TravelAbs
open Go.RowKit Go.TravelBase
set_option linter.unusedVariables false
set_option linter.unusedSimpArgs false

section
variable {P : Program} {ty : Ty} {X : Cx} {H : List (Nat × Blk)} {S : CSet} {m : RMap} {w : World}
/-! ## Values that name no block -/
def Tr (x : AV) : Prop := ∀ w S m v, VR w S m x v → ∀ m', VR w S m' x v
theorem Tr.lit (v : Value) : Tr (.lit v) := fun w S m u h m' => by rw [h.lit_inv]; exact .lit v
theorem Tr.by_ (bs : List UInt8) : Tr (.by_ bs) := fun w S m u h m' => by
  cases h with
  | by_ h1 h2 h3 h4 h5 => exact .by_ h1 h2 h3 h4 h5
theorem Tr.any : Tr .any := fun w S m u h m' => .any u
theorem Tr.li {es : Nat} {xs : List AV} (hx : ∀ x ∈ xs, ∀ y ∈ x.cl, Tr y) : Tr (.li es xs) := fun w S m u h m' => by
  cases h with
  | li us h1 h2 h3 h4 h5 h6 h7 h8 => exact .li us h1 h2 h3 h4 h5 h6 h7 fun i j x y h9 h10 => hx x (List.mem_of_getElem? h9) y (List.mem_of_getElem? h10) _ _ _ _ (h8 i j x y h9 h10) m'
theorem Tr.agg {xs : List AV} (hx : ∀ x ∈ xs, Tr x) : Tr (.agg xs) := fun w S m u h m' => by
  cases h with
  | agg h1 h2 => exact .agg h1 fun j x u h3 h4 => hx x (List.mem_of_getElem? h3) _ _ _ _ (h2 j x u h3 h4) m'
theorem Tr.tup {xs : List AV} (hx : ∀ x ∈ xs, Tr x) : Tr (.tup xs) := fun w S m u h m' => by
  cases h with
  | tup h1 h2 => exact .tup h1 fun j x u h3 h4 => hx x (List.mem_of_getElem? h3) _ _ _ _ (h2 j x u h3 h4) m'
theorem Tr.cl {x : AV} (hx : Tr x) (h : isA x = false) : ∀ y ∈ x.cl, Tr y := by
  rw [cl_single h]
  simpa using hx
/-! ## Settled lists -/
theorem mset_self {k : Nat} {r : Row} (hr : m k = some r) : mset m k r = m := by
  funext j
  unfold mset
  split
  · rename_i e; rw [e, hr]
  · rfl
theorem Mem.frz (h : Mem X H S m w) {k : Nat} {b : Blk} (hk : lk H k = some b) (h1 : b.mode = 0) (hln : b.ln = false) :
    ∃ S', Mem X ((k, ⟨b.c, 1, false⟩) :: H) S' m w ∧ Adv S m w S' m w := by
  obtain ⟨r, hr, h3⟩ := h.blk k b hk
  rcases Nat.eq_zero_or_pos r.cap with hc | hc
  · have hB := h3 (by omega)
    refine ⟨S, ?_, Adv.refl _ _ _⟩
    have := h.upd (S' := S) (w' := w) k ⟨b.c, 1, false⟩ r (.inr hr) (fun b o hb => ⟨hb, rfl⟩) h.frm h.s1 h.slt (fun j bj rj hj h1 h2 h3 h4 => ⟨rfl, fun _ q => q, fun _ h6 => by omega⟩) (fun _ => by
      rw [mset_self hr]
      have hl := hB.len
      exact ⟨hB.es, hB.len, hB.max, hB.rd, fun _ o ho => by have : cN b.c = 0 := by omega
                                                            simp only [this, Nat.zero_mul] at ho; omega, fun _ h6 => by omega⟩)
    rwa [mset_self hr] at this
  · obtain ⟨q1, q2⟩ := h.freeze hk hr h1 hln hc
    exact ⟨_, q1, q2⟩
def isL : AV → Bool
  | .by_ _ => true
  | .li _ _ => true
  | _ => false
theorem frozen_VR (h : Mem X H S m w) {k es i n : Nat} {b : Blk} (hk : lk H k = some b) (hL : isL b.c = true) (h1 : b.mode = 1) (hes : 0 < es) (hE : cE b.c = es) (hn : i + n ≤ cN b.c) {v : Value} (hv : VR w S m (.sl k es i n) v) : VR w S m (sub b.c i n) v := by
  obtain ⟨r, A, hr, he, hi, hmax, hA, h0, rfl⟩ := hv.sl_inv
  obtain ⟨r', h2, h3⟩ := h.blk k b hk
  rw [hr] at h2
  injection h2 with h2
  subst h2
  have hB := h3 (by omega)
  have hset := hB.set (by omega)
  cases hc : b.c with
  | by_ bs =>
    rw [hc] at hn hE
    simp only [cN, cE] at hn hE
    subst hE
    refine .by_ (by simp; omega) (by omega) (by omega) h0 ?_
    rcases Nat.eq_zero_or_pos n with hn0 | hpos
    · exact .inl hn0
    · right
      refine ⟨r.g, i * r.es, hA (by omega), fun j hj => ⟨hset _ ?_, ?_⟩⟩
      · rw [hc, he]; simp only [cN]; omega
      · obtain ⟨_, q2⟩ := hB.rd (i + j) (by rw [hc]; simp only [cN]; omega)
        rw [hc] at q2
        obtain ⟨u, h5, h6⟩ := q2 0 (bA (bs.getD (i + j) 0)) rfl
        rw [h6.lit_inv] at h5
        rw [he] at h5 ⊢
        simp only [Nat.mul_one, Nat.add_zero] at h5 ⊢
        rw [h5]
        congr 3
        simp only [List.getD]
        rw [List.getElem?_take, if_pos hj, List.getElem?_drop]
  | li es' xs =>
    rw [hc] at hn hE
    simp only [cN, cE] at hn hE
    subst hE
    have hget : ∀ {p : Nat} {x : AV}, ((xs.drop i).take n)[p]? = some x → p < n ∧ xs[i + p]? = some x := by
      intro p x hx
      rw [List.getElem?_take] at hx
      split at hx
      · rename_i hp
        rw [List.getElem?_drop] at hx
        exact ⟨hp, hx⟩
      · cases hx
    have hat : ∀ {q : Nat} {x : AV}, xs[q]? = some x → cAt b.c q = x := by
      intro q x hx
      rw [hc]
      simp only [cAt, List.getD, hx]
      rfl
    have hlen : ∀ {q : Nat} {x : AV}, xs[q]? = some x → x.cl.length = es' := by
      intro q x hx
      have hq : q < xs.length := (List.getElem?_eq_some_iff.1 hx).1
      obtain ⟨q1, _⟩ := hB.rd q (by rw [hc]; exact hq)
      rw [hat hx, he] at q1
      exact q1
    refine .li (fun p => (w.cell? ⟨r.g, i * r.es + p, none⟩).getD undef) (by simp; omega) (by omega) (by omega) h0 hes (fun x hx => ?_) ?_ ?_
    · obtain ⟨p, hp, e⟩ := List.getElem_of_mem hx
      exact hlen (hget (e ▸ List.getElem?_eq_getElem hp)).2
    · rcases Nat.eq_zero_or_pos n with hn0 | hpos
      · left; subst hn0; simp
      · right
        refine ⟨r.g, i * r.es, hA (by omega), fun p hp => ⟨hset _ ?_, ?_⟩⟩
        · rw [hc]
          simp only [cN]
          have h7 : (i + n) * r.es ≤ xs.length * r.es := Nat.mul_le_mul_right _ hn
          rw [Nat.add_mul] at h7
          rw [← he] at hp
          omega
        · have hq : p / es' < n := (Nat.div_lt_iff_lt_mul hes).2 hp
          have hx : i + p / es' < xs.length := by omega
          obtain ⟨q1, q2⟩ := hB.rd (i + p / es') (by rw [hc]; exact hx)
          have hj : p % es' < (cAt b.c (i + p / es')).cl.length := by rw [q1, he]; exact Nat.mod_lt _ hes
          obtain ⟨u, h5, _⟩ := q2 (p % es') _ (List.getElem?_eq_getElem hj)
          rw [Nat.add_mul, Nat.add_assoc, he, Nat.mul_comm (p / es'), Nat.div_add_mod] at h5
          rw [he]
          simp only [h5, Option.getD_some]
    · intro p j x y hx hy
      obtain ⟨hp, hx'⟩ := hget hx
      have hq : i + p < xs.length := (List.getElem?_eq_some_iff.1 hx').1
      obtain ⟨q1, q2⟩ := hB.rd (i + p) (by rw [hc]; exact hq)
      rw [hat hx'] at q2
      obtain ⟨u, h5, h6⟩ := q2 j y hy
      rw [Nat.add_mul, Nat.add_assoc, he] at h5
      rw [he]
      simp only [h5, Option.getD_some]
      exact h6
  | _ => rw [hc] at hL; cases hL
end
end Go.TravelAbs
