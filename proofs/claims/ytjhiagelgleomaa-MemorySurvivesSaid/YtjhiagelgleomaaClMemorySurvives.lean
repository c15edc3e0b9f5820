/-
  What is proved: the law 'MemorySurvives' holds of the given program: for every input the call returns true, and each argument reads afterwards as it read before.
-/
import Derived.Test.YtjhiagelgleomaaOpen
import Derived.Test.YtjhiagelgleomaaOpenC
import Derived.Test.YtjhiagelgleomaaMemU
namespace Go.Proofs.Ytjhiagelgleomaa.memorySurvives
open Go.ChangeShapes Go.WideShapes Go.ChangeAt Go.RowKit Go.TravelBase
open Go.ChangeMaps (open_string shut_string)
set_option linter.unusedVariables false
set_option linter.unusedSimpArgs false

section
open Go.TravelAbs
theorem walk_MemorySurvives (A0 : Option Addr) (n0 c0 : Nat) (zs0 : List Int) (A1_1 : Option Addr) (n1_1 c1_1 : Nat) (bs1_1 : List UInt8) (A1_2 : Option Addr) (n1_2 c1_2 : Nat) (bs1_2 : List UInt8) (a2 : Int) (W : World) (w0 : Rd W A0 n0 c0 (zs0.map (Value.int .i64))) (z0 : ∀ z ∈ zs0, (Lit.int .i64 z).wf = true) (w1_1 : Rd W A1_1 n1_1 c1_1 (bvs bs1_1)) (w1_2 : Rd W A1_2 n1_2 c1_2 (bvs bs1_2)) (b2 : -9223372036854775808 ≤ a2 ∧ a2 ≤ 9223372036854775807) :
    Calls Try.prog 6 #[.slice A0 n0 c0, .agg #[.slice A1_1 n1_1 c1_1, .slice A1_2 n1_2 c1_2], .int .i64 a2] W fun e W' => e = .returned (.bool true) ∧ Below W.heap.size W W' := by
  refine FnS.law (survives_s zs0 bs1_1 bs1_2 a2 (wf_i64 z0) b2) W _ rfl fun m j x u hx hu => ?_
  have hS : ∀ b o, b < W.heap.size → (fun b (_ : Nat) => b < W.heap.size) b o := fun _ _ h => h
  match j, hx, hu with
  | 0, hx, hu => simp at hx hu; subst hx hu; exact VR_ints w0 hS
  | 1, hx, hu => simp at hx hu; subst hx hu; exact VR_two w1_1 w1_2 hS
  | 2, hx, hu => simp at hx hu; subst hx hu; exact .lit _
  | j + 3, hx, hu => simp at hx
end

set_option maxRecDepth 100000 in
theorem lifted (os : Os) (started : os.Started) (H : Type) (enc : TypeId × Value → H) :
    ReturnsInHanded {} Try.checked os 6 .any (Rows.memorySurvivesSpec.pre6 enc Try.prog Try.f6 Rows.memorySurvivesRow.domain false) (Rows.memorySurvivesSpec.post enc Try.prog Try.f6 false true false false) := by
  refine returnsInHanded_of_change (C := Try.checked) own_ started (by kernel_rfl) Try.func6
    (ChangeSpec.witness6 (enc := enc) (C := Try.checked) false ⟨#[], #[.slice none 0 0, .agg #[.slice none 0 0, .slice none 0 0], .int .i64 0], []⟩ 8 (by kernel_rfl) (by kernel_rfl) (by kernel_rfl) (by kernel_rfl)) ?_
  intro W base args ds gs before hval0 hW hcnd _
  have hval : ∀ (j : Nat) t v, Try.f6.params[j]? = some t → args[j]? = some v → Value.okWide Try.prog W .any base t v := hval0
  have hW' := hW
  obtain ⟨p, q, hA0, hV, rfl, hfz, hnd⟩ := hW
  have hA : DataW.TrodAll enc Try.prog W 0 (fun _ => true) true Try.f6.params.toList args.toList ds p := hA0
  rw [Try.params6] at hA hval
  obtain ⟨v0, vs0, d0, ds0, p0, q0, hargs, rfl, rfl, h0, r0⟩ := trodAll_cons hA
  obtain ⟨v1, vs1, d1, ds1, p1, q1, rfl, rfl, rfl, h1, r1⟩ := trodAll_cons r0
  obtain ⟨v2, vs2, d2, ds2, p2, q2, rfl, rfl, rfl, h2, r2⟩ := trodAll_cons r1
  obtain ⟨rfl, rfl, rfl⟩ := trodAll_nil r2
  obtain rfl : args = #[v0, v1, v2] := by cases args; simp_all
  obtain ⟨rfl, rfl⟩ := trodVars_none hV
  have k0 := h0
  have lt0 := trod_below h0
  obtain ⟨A0, n0, c0, rfl⟩ := okWide_slice Try.underlying39 (hval 0 39 v0 rfl rfl)
  obtain ⟨bs0, w0, wz0, hd0⟩ := opn_ints Try.underlying39 Try.underlying3 (by kernel_rfl) h0
  have k1 := h1
  have lt1 := trod_below h1
  obtain ⟨A1_1, n1_1, c1_1, bs1_1, A1_2, n1_2, c1_2, bs1_2, rfl, w1_1, w1_2⟩ := opn_arr2 Try.underlying23 Try.underlying22 Try.underlying5 (by kernel_rfl) (by kernel_rfl) (by kernel_rfl) (hval 1 23 v1 rfl rfl) h1
  have k2 := h2
  have lt2 := trod_below h2
  obtain ⟨a2, rfl, rfl, rfl, w2⟩ := open_int Try.underlying3 (hval 2 3 v2 rfl rfl) h2
  have b2 := bounds_i64 w2
  refine (walk_MemorySurvives A0 n0 c0 bs0 A1_1 n1_1 c1_1 bs1_1 A1_2 n1_2 c1_2 bs1_2 a2 W w0 wz0 w1_1 w1_2 b2).mono fun e W' ⟨he, bel⟩ => ?_
  subst he
  exact ⟨_, rfl, _, _, _, [], _, [], hW', trodAll_mk1 (shut_bool Try.underlying4 _), (trodAll_cons_mk (Below.trod laidOut_ (by kernel_rfl) (of_decide_eq_true (by kernel_rfl)) k0 bel lt0) (trodAll_cons_mk (Below.trod laidOut_ (by kernel_rfl) (of_decide_eq_true (by kernel_rfl)) k1 bel lt1) (trodAll_cons_mk (Below.trod laidOut_ (by kernel_rfl) (of_decide_eq_true (by kernel_rfl)) k2 bel lt2) trodAll_mk0))), rfl, bel.frame _, fun h => by cases h⟩

theorem proved : Rows.MemorySurvivesSaid :=
  OpenClaim.holds_of_wide 6 Try.f6 rfl rfl rfl rfl rfl rfl rfl ⟨rfl, rfl, rfl, rfl, rfl⟩ rfl rfl rfl rfl rfl (by kernel_rfl) Try.func6 (by kernel_rfl)
    (of_decide_eq_true (by kernel_rfl)) (by unfold Func.isWrapper; first | (rw [if_pos (by decide +kernel)]; kernel_rfl) | (rw [if_neg (by decide +kernel)]; exact ⟨rfl, rfl⟩))
    (fun os started H enc _ => lifted os started H enc)
#print axioms proved
end Go.Proofs.Ytjhiagelgleomaa.memorySurvives
