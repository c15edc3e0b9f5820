import Derived.Test.YtjhiagelgleomaaAbsW
namespace Go.TravelAbs
open Go.RowKit Go.TravelBase
set_option linter.unusedVariables false
set_option linter.unusedSimpArgs false

/-! ## The end of a function, as one proposition -/
def ExR (ty : Ty) (s : St) (rv : List ResultVar) (xs ls' : List AV) : Prop :=
  match resA ty s.H s.tm rv with
  | some (ys, v0) =>
    match fzL s.H ys xs with
    | some (zs, e, v1) => v0 ∧ v1 ∧ frs (e ++ s.H) zs xs ∧ (frks zs xs).Nodup ∧ lnt (e ++ s.H) ls' 0
    | none => False
  | none => False
section
variable {P : Program} {ty : Ty} {X : Cx} {H : List (Nat × Blk)} {S : CSet} {m : RMap} {w : World} {σ : Sg} {Q : Exit → Act → World → Prop}
theorem ExR.out (hT : TysOK P ty) {s : St} {fn : Func} {rv : List ResultVar} {xs ls' : List AV} (hrv : fn.results.toList = rv) (h : ExR ty s rv xs ls') (hnl : X.nl = ls'.length) (h1000 : ls'.length < 1000) (hsg : xs.length = 1 → isT (xs.getD 0 .any) = false) {a : Act} {w : World} (hR : Rel X s a w) :
    a.defers = [] ∧ ∃ v, (results fn a.tmps).run P w = .ok v w ∧ ∃ S' m', Mem X ((rcv 1000 (mkR xs)).2 ++ lentH ls' 0) S' m' w ∧ VR w S' m' (rcv 1000 (mkR xs)).1 v := by
  unfold ExR at h
  split at h
  · rename_i ys v0 h1
    split at h
    · rename_i zs e v1 h2
      obtain ⟨q1, q2, q3, q4, q5⟩ := h
      exact exit_ok hT hR (by rw [hrv]; exact h1) q1 h2 q2 q3 q4 q5 hnl h1000 (fun x hx => by subst hx; simpa using hsg rfl)
    · exact h.elim
  · exact h.elim
theorem WA.retE (hT : TysOK P ty) {s : St} {fn : Func} {rv : List ResultVar} {xs ls' : List AV} (hrv : fn.results.toList = rv) (hnl : X.nl = ls'.length) (h1000 : ls'.length < 1000) (hsg : xs.length = 1 → isT (xs.getD 0 .any) = false) (hQ : ∀ a w, FQ P X fn (mkR xs) ls' .ret a w → Q .ret a w)
    (h : ExR ty s rv xs ls') : WA P X .ret Q s := WA.ret fun a w hR => hQ a w (ExR.out hT hrv h hnl h1000 hsg hR)
theorem wrap_byte (b : UInt8) : IntKind.i64.wrap (b.toNat : Int) = b.toNat := by
  have := b.toNat_lt
  rw [IntKind.wrap_i64]
  omega
theorem byte_lt (b : UInt8) : (b.toNat < 256) = True := eq_true b.toNat_lt
theorem byte_lti (b : UInt8) : ((b.toNat : Int) < 256) = True := eq_true (by have := b.toNat_lt; omega)
theorem byte_lei (b : UInt8) : ((b.toNat : Int) ≤ 255) = True := eq_true (by have := b.toNat_lt; omega)
theorem u8_nn (x : Int) : (0 ≤ IntKind.u8.wrap x) = True := eq_true (by rw [IntKind.wrap_u8]; omega)
theorem u8_lt (x : Int) : (IntKind.u8.wrap x < 256) = True := eq_true (by rw [IntKind.wrap_u8]; omega)
theorem u8_le (x : Int) : (IntKind.u8.wrap x ≤ 255) = True := eq_true (by rw [IntKind.wrap_u8]; omega)
theorem wrap_u64 {x : Int} (h0 : 0 ≤ x) (h1 : x < 18446744073709551616) : IntKind.u64.wrap x = x := by
  have := IntKind.wrap_u64 x
  omega
theorem Tr_lit {v : Value} : Tr (.lit v) = True := eq_true (Tr.lit v)
theorem Tr_by {bs : List UInt8} : Tr (.by_ bs) = True := eq_true (Tr.by_ bs)
def trA : List AV → Prop
  | [] => True
  | x :: r => Tr x ∧ trA r
def trE : List AV → Prop
  | [] => True
  | x :: r => trA x.cl ∧ trE r
theorem trA_at : ∀ {l : List AV}, trA l → ∀ x ∈ l, Tr x
  | [], _, x, hx => by cases hx
  | y :: r, h, x, hx => by
    rcases List.mem_cons.1 hx with rfl | hx
    · exact h.1
    · exact trA_at h.2 x hx
theorem trE_at : ∀ {l : List AV}, trE l → ∀ x ∈ l, ∀ y ∈ x.cl, Tr y
  | [], _, x, hx => by cases hx
  | z :: r, h, x, hx => by
    rcases List.mem_cons.1 hx with rfl | hx
    · exact trA_at h.1
    · exact trE_at h.2 x hx
theorem trE_of : ∀ {l : List AV}, (∀ x ∈ l, trA x.cl) → trE l
  | [], _ => trivial
  | x :: r, h => ⟨h x (by simp), trE_of fun y hy => h y (List.mem_cons_of_mem _ hy)⟩
theorem trA_nil : trA [] = True := eq_true trivial
theorem trA_cons (x : AV) (r : List AV) : trA (x :: r) = (Tr x ∧ trA r) := propext ⟨fun h => h, fun h => h⟩
theorem trE_nil : trE [] = True := eq_true trivial
theorem trE_cons (x : AV) (r : List AV) : trE (x :: r) = (trA x.cl ∧ trE r) := propext ⟨fun h => h, fun h => h⟩
theorem Tr_li {es : Nat} {xs : List AV} (h : trE xs) : Tr (.li es xs) = True := eq_true (Tr.li (trE_at h))
theorem TrC_by {bs : List UInt8} : TrC (.by_ bs) = True := eq_true (TrC.by_ bs)
theorem TrC_li1 {es : Nat} {xs : List AV} : (∀ x ∈ xs, ∀ y ∈ x.cl, Tr y) → TrC (.li es xs) := TrC.li
theorem TrC_lie {es : Nat} {xs : List AV} (h : trE xs) : TrC (.li es xs) = True := eq_true (TrC.li (trE_at h))
theorem Tr_agg {xs : List AV} (h : ∀ x ∈ xs, Tr x) : Tr (.agg xs) = True := eq_true (Tr.agg h)
theorem Tr_nil {es : Nat} : Tr (.li es []) = True := eq_true (Tr.li fun x hx => absurd hx (by simp))
end
end Go.TravelAbs
