import Derived.Test.YtjhiagelgleomaaDiceA
import Derived.Test.YtjhiagelgleomaaOpenA
namespace Go.Proofs.Ytjhiagelgleomaa
open Go.RowKit Go.TravelBase Go.TravelAbs Go.ChangeShapes Go.WideShapes Go.ChangeAt
set_option linter.unusedVariables false
/-- A slice of ints, as the dice take it. -/
theorem VR_ints {w : World} {S : CSet} {m : RMap} {A : Option Addr} {n c : Nat} {zs : List Int} (h : Rd w A n c (zs.map (Value.int .i64))) (hS : ∀ b o, b < w.heap.size → S b o) : VR w S m (.li 1 (zs.map iA)) (.slice A n c) := by
  have hlen : zs.length = n := by have := h.len; simpa using this
  refine .li (us := fun j => .int .i64 (zs.getD j 0)) (by simp [hlen]) h.cap h.max h.2.2.2.1 (by decide) (fun x hx => ?_) ?_ (fun i j x y hx hy => ?_)
  · obtain ⟨z, _, rfl⟩ := List.mem_map.1 hx
    rfl
  · rcases Nat.eq_zero_or_pos n with h0 | hpos
    · exact .inl (by rw [h0])
    · obtain ⟨b, off, e, hb, hc⟩ := h.at_ hpos
      refine .inr ⟨b, off, e, fun i hi => ⟨hS _ _ hb, hc i _ ?_⟩⟩
      have hi : i < zs.length := by omega
      simp [List.getD, List.getElem?_eq_getElem hi]
  · have hi : i < zs.length := by have := (List.getElem?_eq_some_iff.1 hx).1; simpa using this
    rw [List.getElem?_map, List.getElem?_eq_getElem hi] at hx
    simp only [Option.map_some, Option.some.injEq] at hx
    subst hx
    match j, hy with
    | 0, hy =>
      simp only [iA, AV.cl, List.getElem?_cons_zero, Option.some.injEq] at hy
      subst hy
      have : zs.getD (i * 1 + 0) 0 = zs[i] := by simp [List.getD, List.getElem?_eq_getElem hi]
      rw [this]
      exact .lit _
    | j + 1, hy => simp [iA, AV.cl] at hy
theorem wf_i64 {zs : List Int} (h : ∀ z ∈ zs, (Lit.int .i64 z).wf = true) : ∀ y ∈ zs, -9223372036854775808 ≤ y ∧ y ≤ 9223372036854775807 := fun y hy => bounds_i64 (h y hy)
end Go.Proofs.Ytjhiagelgleomaa
