import Derived.Test.YteodlgmcniikpaaOpenD
import Derived.Test.YteodlgmcniikpaaCnL
namespace Go.Proofs.Yteodlgmcniikpaa
open Go.RowKit Go.TravelBase Go.TravelAbs Go.ChangeShapes Go.WideShapes Go.ChangeAt Go.Deep
set_option linter.unusedVariables false
set_option linter.unusedSimpArgs false

/-! ### What comes in -/
def rpA (r : Rp) : AV := .agg [.by_ r.data, .lit (.int .i64 r.st)]
section
variable {H : Type} {enc : TypeId × Value → H} {W : World}
theorem opn_rp (fuel : Nat) : OpnAt enc Try.prog W fuel 44 (fun x => ∃ y : Rp, x = rpA y) := by
  refine OpnAt.mono (OpnAt.structL (fun k x => match k with | 0 => ∃ bs, x = .by_ bs | _ => ∃ a, x = .lit (.int .i64 a) ∧ (Lit.int .i64 a).wf = true) Try.underlying44 (by kernel_rfl)
    ⟨fun n _ => .bytes Try.underlying22 Try.underlying5 (by kernel_rfl), fun n _ => .int Try.underlying3, trivial⟩) fun x hx => ?_
  obtain ⟨ps, rfl, hl, hp⟩ := hx
  match ps, hl with
  | [p, q], _ =>
    obtain ⟨a, rfl⟩ := hp 0 p rfl
    obtain ⟨b, rfl, _⟩ := hp 1 q rfl
    exact ⟨⟨a, b⟩, rfl⟩
theorem opn_cm (fuel : Nat) : OpnAt enc Try.prog W fuel 24 (fun x => ∃ c : Cm, x = cmA c) := by
  refine OpnAt.mono (OpnAt.structL (fun k x => match k with | 4 => ∃ bs, x = .by_ bs | _ => ∃ a, x = .lit (.int .i64 a) ∧ (Lit.int .i64 a).wf = true) Try.underlying24 (by kernel_rfl)
    ⟨fun n _ => .int Try.underlying3, fun n _ => .int Try.underlying3, fun n _ => .int Try.underlying3, fun n _ => .int Try.underlying3, fun n _ => .bytes Try.underlying22 Try.underlying5 (by kernel_rfl), fun n _ => .int Try.underlying3, trivial⟩) fun x hx => ?_
  obtain ⟨ps, rfl, hl, hp⟩ := hx
  match ps, hl with
  | [p, q, r, s, t, u], _ =>
    obtain ⟨a, rfl, _⟩ := hp 0 p rfl
    obtain ⟨b, rfl, _⟩ := hp 1 q rfl
    obtain ⟨c, rfl, _⟩ := hp 2 r rfl
    obtain ⟨d, rfl, _⟩ := hp 3 s rfl
    obtain ⟨e, rfl⟩ := hp 4 t rfl
    obtain ⟨f, rfl, _⟩ := hp 5 u rfl
    exact ⟨⟨a, b, c, d, e, f⟩, rfl⟩
end
theorem responses_t (r : Rp) (b : List UInt8) (l : List Int) (hl : ∀ y ∈ l, -9223372036854775808 ≤ y ∧ y ≤ 9223372036854775807) : FnS Try.prog 6 [rpA r, .by_ b, .li 1 (l.map iA)] [] (.lit (.bool true)) [] :=
  FnS.len fun _ h2 => responses_s r b l (h2 1 b rfl) hl
end Go.Proofs.Yteodlgmcniikpaa
