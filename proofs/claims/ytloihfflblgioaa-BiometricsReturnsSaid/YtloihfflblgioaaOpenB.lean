import Derived.Test.YtloihfflblgioaaOpen
import Derived.Deep.Fields
namespace Go.Proofs.Ytloihfflblgioaa
open Go.ChangeShapes Go.WideShapes Go.ChangeAt Go.RowKit Go.TravelBase Go.Deep
set_option linter.unusedVariables false
set_option linter.unusedSimpArgs false

section
variable {H : Type} {enc : TypeId × Value → H} {P : Program} {W : World}
/-- A struct of one-cell fields that came in: its cells, and each field's own reading. -/
theorem opn_struct {r : Reach} {b0 : Nat} {t : TypeId} {fs : Array Field} {v : Value} {d : DataW H} {p : List MemPlace} (hs : P.underlying t = some (.struct fs)) (hone : oneCellFields P fs = true) (hC : P.cellsOf t = fs.size)
    (hv : Value.okWide P W r b0 t v) (h : DataW.Trod enc P W 0 (fun _ => true) true t v d p) :
    ∃ cs : Array Value, v = .agg cs ∧ cs.size = fs.size ∧ ∀ (j : Nat) (f : Field) (u : Value), fs[j]? = some f → cs[j]? = some u → ∃ (n : Nat) (y : DataW H × List MemPlace), DataW.trod enc P W 0 (fun _ => true) true n f.type [u] = some y := by
  obtain ⟨cs, rfl, hsz⟩ := okWide_struct hs hv
  refine ⟨cs, rfl, hsz.trans hC, fun j f u hf hu => ?_⟩
  obtain ⟨fuel, ht⟩ := h
  obtain ⟨xs, n, _, _, _, hlen, hg⟩ := DataW.trod_struct hs ht
  obtain ⟨ho, hk⟩ := hone_of hone j f hf
  have h1 := hg j f hf
  rw [ho, hk] at h1
  have hj : j < cs.size := (Array.getElem?_eq_some_iff.1 hu).1
  have e : (cs.toList.drop j).take 1 = [u] := by
    have h2 : cs.toList[j]? = some u := by simpa using hu
    obtain ⟨h3, h4⟩ := List.getElem?_eq_some_iff.1 h2
    rw [List.drop_eq_getElem_cons h3, h4]
    rfl
  have e2 : (Value.cells (.agg cs)).toList = cs.toList := rfl
  rw [e2, e] at h1
  have hx : j < xs.length := by rw [hlen]; exact (Array.getElem?_eq_some_iff.1 hf).1
  exact ⟨n, xs[j], h1.trans (List.getElem?_eq_getElem hx)⟩
theorem opn_int1 {t : TypeId} {k : IntKind} {u : Value} {n : Nat} {y : DataW H × List MemPlace} (ht : P.underlying t = some (.int k)) (h : DataW.trod enc P W 0 (fun _ => true) true n t [u] = some y) : ∃ a, u = .int k a ∧ (Lit.int k a).wf = true := by
  obtain ⟨a, h1, _, h2⟩ := DataW.trod_int ht h
  injection h1 with h1
  exact ⟨a, h1, h2⟩
theorem opn_bool1 {t : TypeId} {u : Value} {n : Nat} {y : DataW H × List MemPlace} (ht : P.underlying t = some .bool) (h : DataW.trod enc P W 0 (fun _ => true) true n t [u] = some y) : ∃ a, u = .bool a := by
  obtain ⟨a, h1, _⟩ := DataW.trod_bool ht h
  injection h1 with h1
  exact ⟨a, h1⟩
theorem opn_bytes1 {t e : TypeId} {u : Value} {n : Nat} {y : DataW H × List MemPlace} (ht : P.underlying t = some (.slice e)) (he : P.underlying e = some (.int .u8)) (hc : P.cellsOf e = 1)
    (h : DataW.trod enc P W 0 (fun _ => true) true n t [u] = some y) : ∃ A m c bs, u = .slice A m c ∧ Rd W A m c (bvs bs) := by
  rcases open_slice ht h with ⟨hcs, _⟩ | ⟨a, l, cap, m, n', D, Pl, hcs, _, _, _, _, _, _⟩
  · injection hcs with hcs
    subst hcs
    exact ⟨none, 0, 0, [], rfl, Rd.nil_ W⟩
  · injection hcs with hcs
    subst hcs
    obtain ⟨bs, hr, _⟩ := opn_bytes (enc := enc) (A := some a) (n := l) (c := cap) (d := y.1) (p := y.2) ht he hc ⟨n, h⟩
    exact ⟨_, _, _, bs, rfl, hr⟩
theorem array2 {α : Type} {cs : Array α} {n : Nat} (h : cs.size = n) (hn : n = 2 := by rfl) : ∃ a b, cs = #[a, b] := by
  obtain ⟨l⟩ := cs
  subst hn
  match l, h with
  | [a, b], _ => exact ⟨a, b, rfl⟩
theorem array5 {α : Type} {cs : Array α} {n : Nat} (h : cs.size = n) (hn : n = 5 := by rfl) : ∃ a b c d e, cs = #[a, b, c, d, e] := by
  obtain ⟨l⟩ := cs
  subst hn
  match l, h with
  | [a, b, c, d, e], _ => exact ⟨a, b, c, d, e, rfl⟩
theorem array6 {α : Type} {cs : Array α} {n : Nat} (h : cs.size = n) (hn : n = 6 := by rfl) : ∃ a b c d e f, cs = #[a, b, c, d, e, f] := by
  obtain ⟨l⟩ := cs
  subst hn
  match l, h with
  | [a, b, c, d, e, f], _ => exact ⟨a, b, c, d, e, f, rfl⟩
end
end Go.Proofs.Ytloihfflblgioaa
