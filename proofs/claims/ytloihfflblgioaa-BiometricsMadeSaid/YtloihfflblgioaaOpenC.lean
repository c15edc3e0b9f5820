import Derived.Test.YtloihfflblgioaaDiceA
import Derived.Test.YtloihfflblgioaaOpenA
namespace Go.Proofs.Ytloihfflblgioaa
open Go.RowKit Go.TravelBase Go.TravelAbs Go.ChangeShapes Go.WideShapes Go.ChangeAt
set_option linter.unusedVariables false
/-- A slice of ints, as the dice take it. -/
theorem VR_ints {w : World} {S : CSet} {m : RMap} {A : Option Addr} {n c : Nat} {zs : List Int} (h : Rd w A n c (zs.map (Value.int .i64))) (hS : ∀ b o, b < w.heap.size → S b o) : VR w S m (.li 1 (zs.map iA)) (.slice A n c) := by
  have hlen : zs.length = n := by have := h.len; simpa using this
  refine .li (us := fun j => .int .i64 (zs.getD j 0)) (by simp [hlen]) h.cap h.max h.2.2.2.1 (by decide) (fun x hx => ?_) ?_ (fun i j x y hx hy => ?_)
  · obtain ⟨z, _, rfl⟩ := List.mem_map.1 hx
    rfl
  · rcases Nat.eq_zero_or_pos n with h0 | hpos
    · exact .inl (by rw [h0])
    · obtain ⟨b, off, e, hb, hc⟩ := h.at_ hpos
      refine .inr ⟨b, off, e, fun i hi => ⟨hS _ _ hb, hc i _ ?_⟩⟩
      have hi : i < zs.length := by omega
      simp [List.getD, List.getElem?_eq_getElem hi]
  · have hi : i < zs.length := by have := (List.getElem?_eq_some_iff.1 hx).1; simpa using this
    rw [List.getElem?_map, List.getElem?_eq_getElem hi] at hx
    simp only [Option.map_some, Option.some.injEq] at hx
    subst hx
    match j, hy with
    | 0, hy =>
      simp only [iA, AV.cl, List.getElem?_cons_zero, Option.some.injEq] at hy
      subst hy
      have : zs.getD (i * 1 + 0) 0 = zs[i] := by simp [List.getD, List.getElem?_eq_getElem hi]
      rw [this]
      exact .lit _
    | j + 1, hy => simp [iA, AV.cl] at hy
theorem wf_i64 {zs : List Int} (h : ∀ z ∈ zs, (Lit.int .i64 z).wf = true) : ∀ y ∈ zs, -9223372036854775808 ≤ y ∧ y ≤ 9223372036854775807 := fun y hy => bounds_i64 (h y hy)
theorem VR_two {w : World} {S : CSet} {m : RMap} {A1 A2 : Option Addr} {n1 c1 n2 c2 : Nat} {b1 b2 : List UInt8} (h1 : Rd w A1 n1 c1 (bvs b1)) (h2 : Rd w A2 n2 c2 (bvs b2)) (hS : ∀ b o, b < w.heap.size → S b o) : VR w S m (.agg [.by_ b1, .by_ b2]) (.agg #[.slice A1 n1 c1, .slice A2 n2 c2]) := by
  refine .agg rfl fun j x u hx hu => ?_
  match j, hx, hu with
  | 0, hx, hu => simp at hx hu; subst hx hu; exact VR_of_Rd h1 hS
  | 1, hx, hu => simp at hx hu; subst hx hu; exact VR_of_Rd h2 hS
  | j + 2, hx, hu => simp at hx
theorem okWide_arr {P : Program} {w : World} {r : Reach} {base : Nat} {t e : TypeId} {n : Nat} {v : Value} (ht : P.underlying t = some (.array n e)) (h : Value.okWide P w r base t v) : ∃ cs, v = .agg cs ∧ cs.size = P.cellsOf t := by
  simp only [Value.okWide, ht] at h
  obtain ⟨cs, h1, h2, _⟩ := h
  exact ⟨cs, h1, h2⟩
open Go.Deep in
/-- An array of two byte slices. -/
theorem opn_arr2 {H : Type} {enc : TypeId × Value → H} {P : Program} {W : World} {r : Reach} {b0 : Nat} {a e b : TypeId} {v : Value} {d : DataW H} {p : List MemPlace} (ha : P.underlying a = some (.array 2 e)) (he : P.underlying e = some (.slice b)) (hb : P.underlying b = some (.int .u8))
    (ca : P.cellsOf a = 2) (ce : P.cellsOf e = 1) (cb : P.cellsOf b = 1) (hv : Value.okWide P W r b0 a v) (h : DataW.Trod enc P W 0 (fun _ => true) true a v d p) :
    ∃ A1 n1 c1 bs1 A2 n2 c2 bs2, v = .agg #[.slice A1 n1 c1, .slice A2 n2 c2] ∧ Rd W A1 n1 c1 (bvs bs1) ∧ Rd W A2 n2 c2 (bvs bs2) := by
  obtain ⟨cs, rfl, hsz⟩ := okWide_arr ha hv
  obtain ⟨u1, u2, rfl⟩ := array2 (hsz.trans ca)
  obtain ⟨fuel, ht⟩ := h
  obtain ⟨ys, m, _, _, _, hl2, hg2⟩ := DataW.trod_array ha ht
  have e2 : ((Value.cells (.agg #[u1, u2])).toList) = [u1, u2] := rfl
  rw [e2] at hg2
  have g0 := hg2 0 (by omega)
  have g1 := hg2 1 (by omega)
  rw [ce] at g0 g1
  rw [List.getElem?_eq_getElem (show 0 < ys.length by omega)] at g0
  rw [List.getElem?_eq_getElem (show 1 < ys.length by omega)] at g1
  obtain ⟨A1, n1, c1, bs1, rfl, w1⟩ := opn_bytes1 he hb cb g0
  obtain ⟨A2, n2, c2, bs2, rfl, w2⟩ := opn_bytes1 he hb cb g1
  exact ⟨A1, n1, c1, bs1, A2, n2, c2, bs2, rfl, w1, w2⟩
end Go.Proofs.Ytloihfflblgioaa
