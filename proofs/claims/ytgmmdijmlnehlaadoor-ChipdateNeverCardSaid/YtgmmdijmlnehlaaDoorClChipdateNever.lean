/-
  What is proved: the law 'ChipdateNever' holds of the given program: for every input the call returns true, and each argument reads afterwards as it read before; where the listed package variable reads as the program's text lays it when the call begins (the card ties that to the text).
-/
import Derived.Test.YtgmmdijmlnehlaaDoorTrG
import Derived.Test.YtgmmdijmlnehlaaDoorTrO
import Derived.Test.YtgmmdijmlnehlaaDoorShM
namespace Go.Proofs.YtgmmdijmlnehlaaDoor.chipdateNever
open Go.ChangeShapes Go.WideShapes Go.ChangeAt Go.RowKit Go.TravelBase Go.Deep Go.TravelAbs
set_option linter.unusedVariables false
set_option linter.unusedSimpArgs false

theorem walk (zs0 : List Int) (g0_0 : ∀ y ∈ zs0, -9223372036854775808 ≤ y ∧ y ≤ 9223372036854775807) (b1 : Cn) (g1_0 : -9223372036854775808 ≤ b1.rt ∧ b1.rt ≤ 9223372036854775807) (a2 : Int) (g2_0 : -9223372036854775808 ≤ a2 ∧ a2 ≤ 9223372036854775807) (a3 : Int) (g3_0 : -9223372036854775808 ≤ a3 ∧ a3 ≤ 9223372036854775807) (a4 : Int) (g4_0 : -9223372036854775808 ≤ a4 ∧ a4 ≤ 9223372036854775807) (a5 : Int) (g5_0 : -9223372036854775808 ≤ a5 ∧ a5 ≤ 9223372036854775807) (a6 : Int) (g6_0 : -9223372036854775808 ≤ a6 ∧ a6 ≤ 9223372036854775807) (W : World) (v0 v1 v2 v3 v4 v5 v6 : Value) (r0 : ∀ m, VR W (fun b (_ : Nat) => b < W.heap.size) m (.li 1 (zs0.map iA)) v0) (r1 : ∀ m, VR W (fun b (_ : Nat) => b < W.heap.size) m (cnA b1) v1) (r2 : ∀ m, VR W (fun b (_ : Nat) => b < W.heap.size) m (.lit (.int .i64 a2)) v2) (r3 : ∀ m, VR W (fun b (_ : Nat) => b < W.heap.size) m (.lit (.int .i64 a3)) v3) (r4 : ∀ m, VR W (fun b (_ : Nat) => b < W.heap.size) m (.lit (.int .i64 a4)) v4) (r5 : ∀ m, VR W (fun b (_ : Nat) => b < W.heap.size) m (.lit (.int .i64 a5)) v5) (r6 : ∀ m, VR W (fun b (_ : Nat) => b < W.heap.size) m (.lit (.int .i64 a6)) v6) (hG : GLw W (fun b (_ : Nat) => b < W.heap.size)) :
    Calls Tryd.prog 8 #[v0, v1, v2, v3, v4, v5, v6] W fun e W' => e = .returned (.bool true) ∧ Below W.heap.size W W' := by
  refine FnS.law (lawNever_s zs0 b1 a2 a3 a4 a5 a6 g0_0 g1_0 g2_0 g3_0 g4_0 g5_0 g6_0) W _ rfl (fun m j x u hx hu => ?_) hG
  match j, hx, hu with
  | 0, hx, hu => simp at hx hu; subst hx hu; exact r0 m
  | 1, hx, hu => simp at hx hu; subst hx hu; exact r1 m
  | 2, hx, hu => simp at hx hu; subst hx hu; exact r2 m
  | 3, hx, hu => simp at hx hu; subst hx hu; exact r3 m
  | 4, hx, hu => simp at hx hu; subst hx hu; exact r4 m
  | 5, hx, hu => simp at hx hu; subst hx hu; exact r5 m
  | 6, hx, hu => simp at hx hu; subst hx hu; exact r6 m
  | j + 7, hx, hu => simp at hx

theorem laid_met (os : Os) : laidMet Tryd.prog Rows.chipdateNeverRow.laid ((laidWorld os).forCall (fun _ _ => 0) ⟨#[], #[.slice none 0 0, .agg #[.string ⟨#[]⟩, .int .i64 0, .int .i64 0, .int .i64 0, .int .i64 0, .int .i64 0], .int .i64 0, .int .i64 0, .int .i64 0, .int .i64 0, .int .i64 0], []⟩).memory :=
  laidMet_of_run' 8 (by kernel_rfl) (by kernel_rfl)
theorem reads (os : Os) {H : Type} (enc : TypeId × Value → H) : ∃ places, DataW.whole enc Tryd.prog ((laidWorld os).forCall (fun _ _ => 0) ⟨#[], #[.slice none 0 0, .agg #[.string ⟨#[]⟩, .int .i64 0, .int .i64 0, .int .i64 0, .int .i64 0, .int .i64 0], .int .i64 0, .int .i64 0, .int .i64 0, .int .i64 0, .int .i64 0], []⟩).memory Tryd.f8.params.toList Rows.chipdateNeverSpec.vars false (#[.slice none 0 0, .agg #[.string ⟨#[]⟩, .int .i64 0, .int .i64 0, .int .i64 0, .int .i64 0, .int .i64 0], .int .i64 0, .int .i64 0, .int .i64 0, .int .i64 0, .int .i64 0] : Array Value).toList 12 = some ([.nil, .agg [.lit (.string []), .lit (.int .i64 0), .lit (.int .i64 0), .lit (.int .i64 0), .lit (.int .i64 0), .lit (.int .i64 0)], .lit (.int .i64 0), .lit (.int .i64 0), .lit (.int .i64 0), .lit (.int .i64 0), .lit (.int .i64 0)], [], places) :=
  ⟨[], by kernel_rfl⟩

set_option maxRecDepth 100000 in
theorem lifted (os : Os) (started : os.Started) (H : Type) (enc : TypeId × Value → H) (F : Stop.Interp) :
    ReturnsInHanded {} Tryd.checked os 8 .any ((OpenSpec.ofChange Rows.chipdateNeverSpec).preRow enc Tryd.prog Tryd.f8 Rows.chipdateNeverRow.domain false Rows.chipdateNeverRow.laid) (((OpenSpec.ofChange Rows.chipdateNeverSpec).at F).post enc Tryd.prog Tryd.f8 false true false false) := by
  obtain ⟨places, hx⟩ := reads os enc
  refine returnsInHanded_of_row (C := Tryd.checked) (s := OpenSpec.ofChange Rows.chipdateNeverSpec) own_ started (by kernel_rfl) Tryd.func8
    (witness_row_at (enc := enc) (C := Tryd.checked) false (laidWorld os) #[.slice none 0 0, .agg #[.string ⟨#[]⟩, .int .i64 0, .int .i64 0, .int .i64 0, .int .i64 0, .int .i64 0], .int .i64 0, .int .i64 0, .int .i64 0, .int .i64 0, .int .i64 0] rfl (by kernel_rfl) (by kernel_rfl) (by kernel_rfl)
      (OpenSpec.preRow_of_cond 12 hx (by kernel_rfl) (fun k hk => by cases hk) (by kernel_rfl) (laid_met os))) ?_
  clear hx
  intro W base args ds gs before hval0 hW _ _ hsz0 hL _ _
  have hval : ∀ (j : Nat) t v, Tryd.f8.params[j]? = some t → args[j]? = some v → Value.okWide Tryd.prog W .any base t v := hval0
  have hG := gl_of hL
  have hW' := hW
  obtain ⟨p, q, hA0, hV, rfl, hfz, hnd⟩ := hW
  have hA : DataW.TrodAll enc Tryd.prog W 0 (fun _ => true) true Tryd.f8.params.toList args.toList ds p := hA0
  have hsz : (DataW.weightsEach Tryd.prog (Tryd.f8.params.toList ++ (OpenSpec.ofChange Rows.chipdateNeverSpec).bare.plain.varTypes Tryd.prog) (ds ++ gs)).all (· ≤ reachBytes) = true := hsz0
  clear hsz0
  rw [Tryd.params8] at hA hval hsz
  obtain ⟨v0, vs0, d0, ds0, p0, q0, hargs, rfl, rfl, h0, z0⟩ := trodAll_cons hA
  obtain ⟨v1, vs1, d1, ds1, p1, q1, rfl, rfl, rfl, h1, z1⟩ := trodAll_cons z0
  obtain ⟨v2, vs2, d2, ds2, p2, q2, rfl, rfl, rfl, h2, z2⟩ := trodAll_cons z1
  obtain ⟨v3, vs3, d3, ds3, p3, q3, rfl, rfl, rfl, h3, z3⟩ := trodAll_cons z2
  obtain ⟨v4, vs4, d4, ds4, p4, q4, rfl, rfl, rfl, h4, z4⟩ := trodAll_cons z3
  obtain ⟨v5, vs5, d5, ds5, p5, q5, rfl, rfl, rfl, h5, z5⟩ := trodAll_cons z4
  obtain ⟨v6, vs6, d6, ds6, p6, q6, rfl, rfl, rfl, h6, z6⟩ := trodAll_cons z5
  obtain ⟨rfl, rfl, rfl⟩ := trodAll_nil z6
  obtain rfl : args = #[v0, v1, v2, v3, v4, v5, v6] := by cases args; simp_all
  obtain ⟨rfl, rfl⟩ := trodVars_none hV
  have k0 := h0
  have lt0 := trod_below h0
  obtain ⟨A0, n0, c0, rfl⟩ := okWide_slice Tryd.underlying36 (hval 0 36 v0 rfl rfl)
  obtain ⟨zs0, w0, wz0, _⟩ := opn_ints Tryd.underlying36 Tryd.underlying3 (by kernel_rfl) h0
  have r0 := fun m => VR_ints (m := m) (S := (fun b (_ : Nat) => b < W.heap.size)) w0 (fun _ _ h => h)
  have k1 := h1
  have lt1 := trod_below h1
  obtain ⟨cs1, rfl, _⟩ := okWide_struct Tryd.underlying40 (hval 1 40 v1 rfl rfl)
  obtain ⟨x1, ⟨b1, rfl, f1_0⟩, r1⟩ := opz_row (fun fuel => opz_chn fuel) (LtW_of hsz (j := 1) rfl rfl) h1
  have k2 := h2
  have lt2 := trod_below h2
  obtain ⟨a2, rfl, rfl, rfl, w2⟩ := open_int Tryd.underlying3 (hval 2 3 v2 rfl rfl) h2
  have r2 := fun m => VR.lit (w := W) (S := (fun b (_ : Nat) => b < W.heap.size)) (m := m) (.int .i64 a2)
  have k3 := h3
  have lt3 := trod_below h3
  obtain ⟨a3, rfl, rfl, rfl, w3⟩ := open_int Tryd.underlying3 (hval 3 3 v3 rfl rfl) h3
  have r3 := fun m => VR.lit (w := W) (S := (fun b (_ : Nat) => b < W.heap.size)) (m := m) (.int .i64 a3)
  have k4 := h4
  have lt4 := trod_below h4
  obtain ⟨a4, rfl, rfl, rfl, w4⟩ := open_int Tryd.underlying3 (hval 4 3 v4 rfl rfl) h4
  have r4 := fun m => VR.lit (w := W) (S := (fun b (_ : Nat) => b < W.heap.size)) (m := m) (.int .i64 a4)
  have k5 := h5
  have lt5 := trod_below h5
  obtain ⟨a5, rfl, rfl, rfl, w5⟩ := open_int Tryd.underlying3 (hval 5 3 v5 rfl rfl) h5
  have r5 := fun m => VR.lit (w := W) (S := (fun b (_ : Nat) => b < W.heap.size)) (m := m) (.int .i64 a5)
  have k6 := h6
  have lt6 := trod_below h6
  obtain ⟨a6, rfl, rfl, rfl, w6⟩ := open_int Tryd.underlying3 (hval 6 3 v6 rfl rfl) h6
  have r6 := fun m => VR.lit (w := W) (S := (fun b (_ : Nat) => b < W.heap.size)) (m := m) (.int .i64 a6)
  refine (walk zs0 (wf_i64 wz0) b1 f1_0 a2 (bounds_i64 w2) a3 (bounds_i64 w3) a4 (bounds_i64 w4) a5 (bounds_i64 w5) a6 (bounds_i64 w6) W _ _ _ _ _ _ _ r0 r1 r2 r3 r4 r5 r6 hG).mono fun e W' ⟨he, bel⟩ => ?_
  subst he
  exact ⟨_, rfl, _, _, _, [], _, [], hW', trodAll_mk1 (shut_bool Tryd.underlying4 _), (trodAll_cons_mk (Below.trod laidOut_ (by kernel_rfl) (of_decide_eq_true (by kernel_rfl)) k0 bel lt0) (trodAll_cons_mk (Below.trod laidOut_ (by kernel_rfl) (of_decide_eq_true (by kernel_rfl)) k1 bel lt1) (trodAll_cons_mk (Below.trod laidOut_ (by kernel_rfl) (of_decide_eq_true (by kernel_rfl)) k2 bel lt2) (trodAll_cons_mk (Below.trod laidOut_ (by kernel_rfl) (of_decide_eq_true (by kernel_rfl)) k3 bel lt3) (trodAll_cons_mk (Below.trod laidOut_ (by kernel_rfl) (of_decide_eq_true (by kernel_rfl)) k4 bel lt4) (trodAll_cons_mk (Below.trod laidOut_ (by kernel_rfl) (of_decide_eq_true (by kernel_rfl)) k5 bel lt5) (trodAll_cons_mk (Below.trod laidOut_ (by kernel_rfl) (of_decide_eq_true (by kernel_rfl)) k6 bel lt6) trodAll_mk0))))))), rfl, bel.frame _, fun h => by cases h⟩

theorem said : Rows.ChipdateNeverSaid :=
  OpenClaim.holds_of_cond 8 Tryd.f8 rfl rfl rfl rfl rfl rfl rfl ⟨rfl, rfl, rfl, rfl, rfl⟩ rfl rfl rfl rfl rfl (by kernel_rfl) Tryd.func8 (by kernel_rfl)
    (of_decide_eq_true (by kernel_rfl)) (by unfold Func.isWrapper; first | (rw [if_pos (by decide +kernel)]; kernel_rfl) | (rw [if_neg (by decide +kernel)]; exact ⟨rfl, rfl⟩))
    (fun os started H enc _ F => by rw [OpenClaim.pre_eq_preRow]; exact lifted os started H enc F)

/-- No parameter wants a stand-in; the program's own looks are off. -/
theorem plain (f : FuncId) (fn : Func) (hf : Tryd.pinned.checked.prog.funcNamed "traveldoc/traveldoclaw25.ChipdateNever" = some f) (hfn : Tryd.pinned.checked.prog.funcs[f]? = some fn) :
    false = Tryd.pinned.checked.prog.looks [] ∧ ∀ (j : Nat) t, fn.params[j]? = some t → Tryd.pinned.checked.prog.wantsStandIn t = false := by
  obtain rfl : f = 8 := Option.some.inj ((show Tryd.prog.funcNamed "traveldoc/traveldoclaw25.ChipdateNever" = some 8 by kernel_rfl).symm.trans hf) |>.symm
  obtain rfl : fn = Tryd.f8 := (Option.some.inj (Tryd.func8.symm.trans hfn)).symm
  refine ⟨by kernel_rfl, fun j t ht => ?_⟩
  rw [Tryd.params8] at ht
  have hm : t ∈ [36, 40, 3, 3, 3, 3, 3] := by simpa using Array.mem_of_getElem? ht
  have hall : ([36, 40, 3, 3, 3, 3, 3].all fun u => !Tryd.prog.wantsStandIn u) = true := by kernel_rfl
  exact (show Tryd.prog.wantsStandIn t = false by simpa using List.all_eq_true.1 hall t hm)

theorem card : Rows.ChipdateNeverCardSaid :=
  Claim7.holds_tied_plain_at .later [] _ _ _ _ said (fun _ h => by cases h) (by kernel_rfl) (fun _ h => by cases h) chipdateNever_row_tie rfl ⟨rfl, rfl⟩ (by kernel_rfl) rfl plain (by kernel_rfl)
#print axioms card
end Go.Proofs.YtgmmdijmlnehlaaDoor.chipdateNever
