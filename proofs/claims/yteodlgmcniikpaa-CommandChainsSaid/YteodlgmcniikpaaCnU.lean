import Derived.Test.YteodlgmcniikpaaCnO
import Derived.Test.YteodlgmcniikpaaCnT
namespace Go.Proofs.Yteodlgmcniikpaa
open Go.RowKit Go.TravelBase Go.TravelAbs Go.ChangeShapes Go.WideShapes Go.ChangeAt Go.Deep
set_option linter.unusedVariables false
set_option linter.unusedSimpArgs false

section
variable {H : Type} {enc : TypeId × Value → H} {W : World}
theorem opn_cm2 (fuel : Nat) : OpnAt enc Try.prog W fuel 51 (fun x => ∃ u : Cm × Cm, x = cm2A u) := by
  refine OpnAt.mono (OpnAt.array (es := 6) (Φ := fun x => ∃ c : Cm, x = cmA c) Try.underlying51 (by kernel_rfl) (by kernel_rfl) (fun n _ => opn_cm n)) fun x hx => ?_
  obtain ⟨ps, rfl, hl, hp⟩ := hx
  match ps, hl with
  | [p, q], _ =>
    obtain ⟨a, rfl⟩ := hp p (by simp)
    obtain ⟨b, rfl⟩ := hp q (by simp)
    exact ⟨(a, b), rfl⟩
end
theorem chains_t (l : List Int) (n : Int) (u : Cm × Cm) (hl : ∀ y ∈ l, -9223372036854775808 ≤ y ∧ y ≤ 9223372036854775807) (hn : -9223372036854775808 ≤ n ∧ n ≤ 9223372036854775807) : FnS Try.prog 7 [.li 1 (l.map iA), .lit (.int .i64 n), cm2A u] [] (.lit (.bool true)) [] := chains_s l hl n hn.2 u
end Go.Proofs.Yteodlgmcniikpaa
