/-
  What is proved: the law 'BiometricsMade' holds of the given program: for every input the call returns true, and each argument reads afterwards as it read before.
-/
import Derived.Test.YtloihfflblgioaaOpenE
import Derived.Test.YtloihfflblgioaaBiR
namespace Go.Proofs.Ytloihfflblgioaa.biometricsMade
open Go.ChangeShapes Go.WideShapes Go.ChangeAt Go.RowKit Go.TravelBase Go.Deep Go.TravelAbs
set_option linter.unusedVariables false
set_option linter.unusedSimpArgs false

theorem walk (zs0 : List Int) (g0_0 : ∀ y ∈ zs0, -9223372036854775808 ≤ y ∧ y ≤ 9223372036854775807) (W : World) (v0 : Value) (r0 : ∀ m, VR W (fun b (_ : Nat) => b < W.heap.size) m (.li 1 (zs0.map iA)) v0) :
    Calls Try.prog 5 #[v0] W fun e W' => e = .returned (.bool true) ∧ Below W.heap.size W W' := by
  refine FnS.law (made_s zs0 g0_0) W _ rfl fun m j x u hx hu => ?_
  match j, hx, hu with
  | 0, hx, hu => simp at hx hu; subst hx hu; exact r0 m
  | j + 1, hx, hu => simp at hx

set_option maxRecDepth 100000 in
theorem lifted (os : Os) (started : os.Started) (H : Type) (enc : TypeId × Value → H) :
    ReturnsInHanded {} Try.checked os 5 .any (Rows.biometricsMadeSpec.pre6 enc Try.prog Try.f5 Rows.biometricsMadeRow.domain false) (Rows.biometricsMadeSpec.post enc Try.prog Try.f5 false true false false) := by
  refine returnsInHanded_of_change_sized (C := Try.checked) own_ started (by kernel_rfl) Try.func5
    (ChangeSpec.witness6 (enc := enc) (C := Try.checked) false ⟨#[], #[.slice none 0 0], []⟩ 12 (by kernel_rfl) (by kernel_rfl) (by kernel_rfl) (by kernel_rfl)) ?_
  intro W base args ds gs before hval0 hW hcnd hsz0 _
  have hval : ∀ (j : Nat) t v, Try.f5.params[j]? = some t → args[j]? = some v → Value.okWide Try.prog W .any base t v := hval0
  have hW' := hW
  obtain ⟨p, q, hA0, hV, rfl, hfz, hnd⟩ := hW
  have hA : DataW.TrodAll enc Try.prog W 0 (fun _ => true) true Try.f5.params.toList args.toList ds p := hA0
  have hsz : (DataW.weightsEach Try.prog (Try.f5.params.toList ++ Rows.biometricsMadeSpec.plain.varTypes Try.prog) (ds ++ gs)).all (· ≤ reachBytes) = true := hsz0
  clear hsz0
  rw [Try.params5] at hA hval hsz
  obtain ⟨v0, vs0, d0, ds0, p0, q0, hargs, rfl, rfl, h0, z0⟩ := trodAll_cons hA
  obtain ⟨rfl, rfl, rfl⟩ := trodAll_nil z0
  obtain rfl : args = #[v0] := by cases args; simp_all
  obtain ⟨rfl, rfl⟩ := trodVars_none hV
  have k0 := h0
  have lt0 := trod_below h0
  obtain ⟨A0, n0, c0, rfl⟩ := okWide_slice Try.underlying39 (hval 0 39 v0 rfl rfl)
  obtain ⟨zs0, w0, wz0, _⟩ := opn_ints Try.underlying39 Try.underlying3 (by kernel_rfl) h0
  have r0 := fun m => VR_ints (m := m) (S := (fun b (_ : Nat) => b < W.heap.size)) w0 (fun _ _ h => h)
  refine (walk zs0 (wf_i64 wz0) W _ r0).mono fun e W' ⟨he, bel⟩ => ?_
  subst he
  exact ⟨_, rfl, _, _, _, [], _, [], hW', trodAll_mk1 (shut_bool Try.underlying4 _), (trodAll_cons_mk (Below.trod laidOut_ (by kernel_rfl) (of_decide_eq_true (by kernel_rfl)) k0 bel lt0) trodAll_mk0), rfl, bel.frame _, fun h => by cases h⟩

theorem proved : Rows.BiometricsMadeSaid :=
  OpenClaim.holds_of_wide 5 Try.f5 rfl rfl rfl rfl rfl rfl rfl ⟨rfl, rfl, rfl, rfl, rfl⟩ rfl rfl rfl rfl rfl (by kernel_rfl) Try.func5 (by kernel_rfl)
    (of_decide_eq_true (by kernel_rfl)) (by unfold Func.isWrapper; first | (rw [if_pos (by decide +kernel)]; kernel_rfl) | (rw [if_neg (by decide +kernel)]; exact ⟨rfl, rfl⟩))
    (fun os started H enc _ => lifted os started H enc)
#print axioms proved
end Go.Proofs.Ytloihfflblgioaa.biometricsMade
