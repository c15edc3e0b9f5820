/-
  What is proved: the law 'BiometricsValid' holds of the given program: for every input the call returns true, and each argument reads afterwards as it read before.
-/
import Derived.Test.YtloihfflblgioaaBiO
import Derived.Test.YtloihfflblgioaaBiN
namespace Go.Proofs.Ytloihfflblgioaa.biometricsValid
open Go.ChangeShapes Go.WideShapes Go.ChangeAt Go.RowKit Go.TravelBase Go.Deep Go.TravelAbs
set_option linter.unusedVariables false
set_option linter.unusedSimpArgs false

theorem walk (tl0 : List Tm) (g0_0 : tl0.length ≤ 1954687338211) (a1 : Int) (g1_0 : -9223372036854775808 ≤ a1 ∧ a1 ≤ 9223372036854775807) (a2 : Int) (g2_0 : -9223372036854775808 ≤ a2 ∧ a2 ≤ 9223372036854775807) (W : World) (v0 v1 v2 : Value) (r0 : ∀ m, VR W (fun b (_ : Nat) => b < W.heap.size) m (.li 7 (tl0.map tmA)) v0) (r1 : ∀ m, VR W (fun b (_ : Nat) => b < W.heap.size) m (.lit (.int .i64 a1)) v1) (r2 : ∀ m, VR W (fun b (_ : Nat) => b < W.heap.size) m (.lit (.int .i64 a2)) v2) :
    Calls Try.prog 4 #[v0, v1, v2] W fun e W' => e = .returned (.bool true) ∧ Below W.heap.size W W' := by
  refine FnS.law (bvalid2_s tl0 a1 a2 g0_0 g1_0 g2_0) W _ rfl fun m j x u hx hu => ?_
  match j, hx, hu with
  | 0, hx, hu => simp at hx hu; subst hx hu; exact r0 m
  | 1, hx, hu => simp at hx hu; subst hx hu; exact r1 m
  | 2, hx, hu => simp at hx hu; subst hx hu; exact r2 m
  | j + 3, hx, hu => simp at hx

set_option maxRecDepth 100000 in
theorem lifted (os : Os) (started : os.Started) (H : Type) (enc : TypeId × Value → H) :
    ReturnsInHanded {} Try.checked os 4 .any (Rows.biometricsValidSpec.pre6 enc Try.prog Try.f4 Rows.biometricsValidRow.domain false) (Rows.biometricsValidSpec.post enc Try.prog Try.f4 false true false false) := by
  refine returnsInHanded_of_change_sized (C := Try.checked) own_ started (by kernel_rfl) Try.func4
    (ChangeSpec.witness6 (enc := enc) (C := Try.checked) false ⟨#[], #[.slice none 0 0, .int .i64 0, .int .i64 0], []⟩ 12 (by kernel_rfl) (by kernel_rfl) (by kernel_rfl) (by kernel_rfl)) ?_
  intro W base args ds gs before hval0 hW hcnd hsz0 _
  have hval : ∀ (j : Nat) t v, Try.f4.params[j]? = some t → args[j]? = some v → Value.okWide Try.prog W .any base t v := hval0
  have hW' := hW
  obtain ⟨p, q, hA0, hV, rfl, hfz, hnd⟩ := hW
  have hA : DataW.TrodAll enc Try.prog W 0 (fun _ => true) true Try.f4.params.toList args.toList ds p := hA0
  have hsz : (DataW.weightsEach Try.prog (Try.f4.params.toList ++ Rows.biometricsValidSpec.plain.varTypes Try.prog) (ds ++ gs)).all (· ≤ reachBytes) = true := hsz0
  clear hsz0
  rw [Try.params4] at hA hval hsz
  obtain ⟨v0, vs0, d0, ds0, p0, q0, hargs, rfl, rfl, h0, z0⟩ := trodAll_cons hA
  obtain ⟨v1, vs1, d1, ds1, p1, q1, rfl, rfl, rfl, h1, z1⟩ := trodAll_cons z0
  obtain ⟨v2, vs2, d2, ds2, p2, q2, rfl, rfl, rfl, h2, z2⟩ := trodAll_cons z1
  obtain ⟨rfl, rfl, rfl⟩ := trodAll_nil z2
  obtain rfl : args = #[v0, v1, v2] := by cases args; simp_all
  obtain ⟨rfl, rfl⟩ := trodVars_none hV
  have k0 := h0
  have lt0 := trod_below h0
  obtain ⟨A0, n0, c0, rfl⟩ := okWide_slice Try.underlying22 (hval 0 22 v0 rfl rfl)
  obtain ⟨x0, ⟨tl0, rfl, f0_0⟩, r0⟩ := opz_cell rfl (fun fuel => opz_tms fuel) (fun x hx => by obtain ⟨tl0, rfl, f0_0⟩ := hx; rfl) (LtW_of hsz (j := 0) rfl rfl) h0
  have k1 := h1
  have lt1 := trod_below h1
  obtain ⟨a1, rfl, rfl, rfl, w1⟩ := open_int Try.underlying3 (hval 1 3 v1 rfl rfl) h1
  have r1 := fun m => VR.lit (w := W) (S := (fun b (_ : Nat) => b < W.heap.size)) (m := m) (.int .i64 a1)
  have k2 := h2
  have lt2 := trod_below h2
  obtain ⟨a2, rfl, rfl, rfl, w2⟩ := open_int Try.underlying3 (hval 2 3 v2 rfl rfl) h2
  have r2 := fun m => VR.lit (w := W) (S := (fun b (_ : Nat) => b < W.heap.size)) (m := m) (.int .i64 a2)
  refine (walk tl0 f0_0 a1 (bounds_i64 w1) a2 (bounds_i64 w2) W _ _ _ r0 r1 r2).mono fun e W' ⟨he, bel⟩ => ?_
  subst he
  exact ⟨_, rfl, _, _, _, [], _, [], hW', trodAll_mk1 (shut_bool Try.underlying4 _), (trodAll_cons_mk (Below.trod laidOut_ (by kernel_rfl) (of_decide_eq_true (by kernel_rfl)) k0 bel lt0) (trodAll_cons_mk (Below.trod laidOut_ (by kernel_rfl) (of_decide_eq_true (by kernel_rfl)) k1 bel lt1) (trodAll_cons_mk (Below.trod laidOut_ (by kernel_rfl) (of_decide_eq_true (by kernel_rfl)) k2 bel lt2) trodAll_mk0))), rfl, bel.frame _, fun h => by cases h⟩

theorem proved : Rows.BiometricsValidSaid :=
  OpenClaim.holds_of_wide 4 Try.f4 rfl rfl rfl rfl rfl rfl rfl ⟨rfl, rfl, rfl, rfl, rfl⟩ rfl rfl rfl rfl rfl (by kernel_rfl) Try.func4 (by kernel_rfl)
    (of_decide_eq_true (by kernel_rfl)) (by unfold Func.isWrapper; first | (rw [if_pos (by decide +kernel)]; kernel_rfl) | (rw [if_neg (by decide +kernel)]; exact ⟨rfl, rfl⟩))
    (fun os started H enc _ => lifted os started H enc)
#print axioms proved
end Go.Proofs.Ytloihfflblgioaa.biometricsValid
