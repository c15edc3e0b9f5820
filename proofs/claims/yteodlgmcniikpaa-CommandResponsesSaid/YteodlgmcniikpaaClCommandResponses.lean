/-
  What is proved: the law 'CommandResponses' holds of the given program: for every input the call returns true, and each argument reads afterwards as it read before.
-/
import Derived.Test.YteodlgmcniikpaaOpenD
import Derived.Test.YteodlgmcniikpaaCnO
namespace Go.Proofs.Yteodlgmcniikpaa.commandResponses
open Go.ChangeShapes Go.WideShapes Go.ChangeAt Go.RowKit Go.TravelBase Go.Deep Go.TravelAbs
set_option linter.unusedVariables false
set_option linter.unusedSimpArgs false

theorem walk (rs0 : Rp) (bs1 : List UInt8) (zs2 : List Int) (g2_0 : ∀ y ∈ zs2, -9223372036854775808 ≤ y ∧ y ≤ 9223372036854775807) (W : World) (v0 v1 v2 : Value) (r0 : ∀ m, VR W (fun b (_ : Nat) => b < W.heap.size) m (rpA rs0) v0) (r1 : ∀ m, VR W (fun b (_ : Nat) => b < W.heap.size) m (.by_ bs1) v1) (r2 : ∀ m, VR W (fun b (_ : Nat) => b < W.heap.size) m (.li 1 (zs2.map iA)) v2) :
    Calls Try.prog 6 #[v0, v1, v2] W fun e W' => e = .returned (.bool true) ∧ Below W.heap.size W W' := by
  refine FnS.law (responses_t rs0 bs1 zs2 g2_0) W _ rfl fun m j x u hx hu => ?_
  match j, hx, hu with
  | 0, hx, hu => simp at hx hu; subst hx hu; exact r0 m
  | 1, hx, hu => simp at hx hu; subst hx hu; exact r1 m
  | 2, hx, hu => simp at hx hu; subst hx hu; exact r2 m
  | j + 3, hx, hu => simp at hx

set_option maxRecDepth 100000 in
theorem lifted (os : Os) (started : os.Started) (H : Type) (enc : TypeId × Value → H) :
    ReturnsInHanded {} Try.checked os 6 .any (Rows.commandResponsesSpec.pre6 enc Try.prog Try.f6 Rows.commandResponsesRow.domain false) (Rows.commandResponsesSpec.post enc Try.prog Try.f6 false true false false) := by
  refine returnsInHanded_of_change (C := Try.checked) own_ started (by kernel_rfl) Try.func6
    (ChangeSpec.witness6 (enc := enc) (C := Try.checked) false ⟨#[], #[.agg #[.slice none 0 0, .int .i64 0], .slice none 0 0, .slice none 0 0], []⟩ 12 (by kernel_rfl) (by kernel_rfl) (by kernel_rfl) (by kernel_rfl)) ?_
  intro W base args ds gs before hval0 hW hcnd _
  have hval : ∀ (j : Nat) t v, Try.f6.params[j]? = some t → args[j]? = some v → Value.okWide Try.prog W .any base t v := hval0
  have hW' := hW
  obtain ⟨p, q, hA0, hV, rfl, hfz, hnd⟩ := hW
  have hA : DataW.TrodAll enc Try.prog W 0 (fun _ => true) true Try.f6.params.toList args.toList ds p := hA0
  rw [Try.params6] at hA hval
  obtain ⟨v0, vs0, d0, ds0, p0, q0, hargs, rfl, rfl, h0, z0⟩ := trodAll_cons hA
  obtain ⟨v1, vs1, d1, ds1, p1, q1, rfl, rfl, rfl, h1, z1⟩ := trodAll_cons z0
  obtain ⟨v2, vs2, d2, ds2, p2, q2, rfl, rfl, rfl, h2, z2⟩ := trodAll_cons z1
  obtain ⟨rfl, rfl, rfl⟩ := trodAll_nil z2
  obtain rfl : args = #[v0, v1, v2] := by cases args; simp_all
  obtain ⟨rfl, rfl⟩ := trodVars_none hV
  have k0 := h0
  have lt0 := trod_below h0
  obtain ⟨cs0, rfl, _⟩ := okWide_struct Try.underlying44 (hval 0 44 v0 rfl rfl)
  obtain ⟨x0, ⟨rs0, rfl⟩, r0⟩ := opn_row (fun fuel => opn_rp fuel) h0
  have k1 := h1
  have lt1 := trod_below h1
  obtain ⟨A1, n1, c1, rfl⟩ := okWide_slice Try.underlying22 (hval 1 22 v1 rfl rfl)
  obtain ⟨bs1, w1, _⟩ := opn_bytes Try.underlying22 Try.underlying5 (by kernel_rfl) h1
  have r1 := fun m => VR_of_Rd (m := m) (S := (fun b (_ : Nat) => b < W.heap.size)) w1 (fun _ _ h => h)
  have k2 := h2
  have lt2 := trod_below h2
  obtain ⟨A2, n2, c2, rfl⟩ := okWide_slice Try.underlying35 (hval 2 35 v2 rfl rfl)
  obtain ⟨zs2, w2, wz2, _⟩ := opn_ints Try.underlying35 Try.underlying3 (by kernel_rfl) h2
  have r2 := fun m => VR_ints (m := m) (S := (fun b (_ : Nat) => b < W.heap.size)) w2 (fun _ _ h => h)
  refine (walk rs0 bs1 zs2 (wf_i64 wz2) W _ _ _ r0 r1 r2).mono fun e W' ⟨he, bel⟩ => ?_
  subst he
  exact ⟨_, rfl, _, _, _, [], _, [], hW', trodAll_mk1 (shut_bool Try.underlying4 _), (trodAll_cons_mk (Below.trod laidOut_ (by kernel_rfl) (of_decide_eq_true (by kernel_rfl)) k0 bel lt0) (trodAll_cons_mk (Below.trod laidOut_ (by kernel_rfl) (of_decide_eq_true (by kernel_rfl)) k1 bel lt1) (trodAll_cons_mk (Below.trod laidOut_ (by kernel_rfl) (of_decide_eq_true (by kernel_rfl)) k2 bel lt2) trodAll_mk0))), rfl, bel.frame _, fun h => by cases h⟩

theorem proved : Rows.CommandResponsesSaid :=
  OpenClaim.holds_of_wide 6 Try.f6 rfl rfl rfl rfl rfl rfl rfl ⟨rfl, rfl, rfl, rfl, rfl⟩ rfl rfl rfl rfl rfl (by kernel_rfl) Try.func6 (by kernel_rfl)
    (of_decide_eq_true (by kernel_rfl)) (by unfold Func.isWrapper; first | (rw [if_pos (by decide +kernel)]; kernel_rfl) | (rw [if_neg (by decide +kernel)]; exact ⟨rfl, rfl⟩))
    (fun os started H enc _ => lifted os started H enc)
#print axioms proved
end Go.Proofs.Yteodlgmcniikpaa.commandResponses
