/-
  What is proved: the law 'CommandExact' holds of the given program: for every input the call returns true, and each argument reads afterwards as it read before.
-/
import Derived.Test.YteodlgmcniikpaaOpen
import Derived.Test.YteodlgmcniikpaaOpenB
import Derived.Test.YteodlgmcniikpaaCmdK
namespace Go.Proofs.Yteodlgmcniikpaa.commandExact
open Go.ChangeShapes Go.WideShapes Go.ChangeAt Go.RowKit Go.TravelBase
open Go.ChangeMaps (open_string shut_string)
set_option linter.unusedVariables false
set_option linter.unusedSimpArgs false

set_option maxRecDepth 100000 in
theorem lifted (os : Os) (started : os.Started) (H : Type) (enc : TypeId × Value → H) :
    ReturnsInHanded {} Try.checked os 3 .any (Rows.commandExactSpec.pre6 enc Try.prog Try.f3 Rows.commandExactRow.domain false) (Rows.commandExactSpec.post enc Try.prog Try.f3 false true false false) := by
  refine returnsInHanded_of_change (C := Try.checked) own_ started (by kernel_rfl) Try.func3
    (ChangeSpec.witness6 (enc := enc) (C := Try.checked) false ⟨#[], #[.agg #[.int .i64 0, .int .i64 0, .int .i64 0, .int .i64 0, .slice none 0 0, .int .i64 0], .slice none 0 0], []⟩ 8 (by kernel_rfl) (by kernel_rfl) (by kernel_rfl) (by kernel_rfl)) ?_
  intro W base args ds gs before hval0 hW hcnd _
  have hval : ∀ (j : Nat) t v, Try.f3.params[j]? = some t → args[j]? = some v → Value.okWide Try.prog W .any base t v := hval0
  have hW' := hW
  obtain ⟨p, q, hA0, hV, rfl, hfz, hnd⟩ := hW
  have hA : DataW.TrodAll enc Try.prog W 0 (fun _ => true) true Try.f3.params.toList args.toList ds p := hA0
  rw [Try.params3] at hA hval
  obtain ⟨v0, vs0, d0, ds0, p0, q0, hargs, rfl, rfl, h0, r0⟩ := trodAll_cons hA
  obtain ⟨v1, vs1, d1, ds1, p1, q1, rfl, rfl, rfl, h1, r1⟩ := trodAll_cons r0
  obtain ⟨rfl, rfl, rfl⟩ := trodAll_nil r1
  obtain rfl : args = #[v0, v1] := by cases args; simp_all
  obtain ⟨rfl, rfl⟩ := trodVars_none hV
  have k0 := h0
  have lt0 := trod_below h0
  obtain ⟨cs0, rfl, hs0, hf0⟩ := opn_struct Try.underlying24 (by kernel_rfl) (by kernel_rfl) (hval 0 24 v0 rfl rfl) h0
  obtain ⟨u0_0, u0_1, u0_2, u0_3, u0_4, u0_5, rfl⟩ := array6 hs0
  obtain ⟨_, _, q0_0⟩ := hf0 0 _ _ rfl rfl
  obtain ⟨a0_0, rfl, wf0_0⟩ := opn_int1 Try.underlying3 q0_0
  have b0_0 := bounds_i64 wf0_0
  obtain ⟨_, _, q0_1⟩ := hf0 1 _ _ rfl rfl
  obtain ⟨a0_1, rfl, wf0_1⟩ := opn_int1 Try.underlying3 q0_1
  have b0_1 := bounds_i64 wf0_1
  obtain ⟨_, _, q0_2⟩ := hf0 2 _ _ rfl rfl
  obtain ⟨a0_2, rfl, wf0_2⟩ := opn_int1 Try.underlying3 q0_2
  have b0_2 := bounds_i64 wf0_2
  obtain ⟨_, _, q0_3⟩ := hf0 3 _ _ rfl rfl
  obtain ⟨a0_3, rfl, wf0_3⟩ := opn_int1 Try.underlying3 q0_3
  have b0_3 := bounds_i64 wf0_3
  obtain ⟨_, _, q0_4⟩ := hf0 4 _ _ rfl rfl
  obtain ⟨A0_4, n0_4, c0_4, bs0_4, rfl, w0_4⟩ := opn_bytes1 Try.underlying22 Try.underlying5 (by kernel_rfl) q0_4
  obtain ⟨_, _, q0_5⟩ := hf0 5 _ _ rfl rfl
  obtain ⟨a0_5, rfl, wf0_5⟩ := opn_int1 Try.underlying3 q0_5
  have b0_5 := bounds_i64 wf0_5
  have k1 := h1
  have lt1 := trod_below h1
  obtain ⟨A1, n1, c1, rfl⟩ := okWide_slice Try.underlying22 (hval 1 22 v1 rfl rfl)
  obtain ⟨bs1, w1, hd1⟩ := opn_bytes Try.underlying22 Try.underlying5 (by kernel_rfl) h1
  refine (walk_CommandExact ⟨a0_0, a0_1, a0_2, a0_3, bs0_4, a0_5⟩ A0_4 n0_4 c0_4 A1 n1 c1 bs1 W w0_4 w1).mono fun e W' ⟨he, bel⟩ => ?_
  subst he
  exact ⟨_, rfl, _, _, _, [], _, [], hW', trodAll_mk1 (shut_bool Try.underlying4 _), (trodAll_cons_mk (Below.trod laidOut_ (by kernel_rfl) (of_decide_eq_true (by kernel_rfl)) k0 bel lt0) (trodAll_cons_mk (Below.trod laidOut_ (by kernel_rfl) (of_decide_eq_true (by kernel_rfl)) k1 bel lt1) trodAll_mk0)), rfl, bel.frame _, fun h => by cases h⟩

theorem proved : Rows.CommandExactSaid :=
  OpenClaim.holds_of_wide 3 Try.f3 rfl rfl rfl rfl rfl rfl rfl ⟨rfl, rfl, rfl, rfl, rfl⟩ rfl rfl rfl rfl rfl (by kernel_rfl) Try.func3 (by kernel_rfl)
    (of_decide_eq_true (by kernel_rfl)) (by unfold Func.isWrapper; first | (rw [if_pos (by decide +kernel)]; kernel_rfl) | (rw [if_neg (by decide +kernel)]; exact ⟨rfl, rfl⟩))
    (fun os started H enc _ => lifted os started H enc)
#print axioms proved
end Go.Proofs.Yteodlgmcniikpaa.commandExact
