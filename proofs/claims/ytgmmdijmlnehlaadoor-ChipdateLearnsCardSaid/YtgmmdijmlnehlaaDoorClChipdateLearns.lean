/-
  What is proved: the law 'ChipdateLearns' holds of the given program: for every input the call returns true, and each argument reads afterwards as it read before; where the listed package variable reads as the program's text lays it when the call begins (the card ties that to the text).
-/
import Derived.Test.YtgmmdijmlnehlaaDoorTrG
import Derived.Test.YtgmmdijmlnehlaaDoorTrO
import Derived.Test.YtgmmdijmlnehlaaDoorShJ
namespace Go.Proofs.YtgmmdijmlnehlaaDoor.chipdateLearns
open Go.ChangeShapes Go.WideShapes Go.ChangeAt Go.RowKit Go.TravelBase Go.Deep Go.TravelAbs
set_option linter.unusedVariables false
set_option linter.unusedSimpArgs false

theorem walk (s0 : Sto) (g0_0 : NmOK s0.pts) (b1 : Cn) (g1_0 : -9223372036854775808 ≤ b1.rt ∧ b1.rt ≤ 9223372036854775807) (c2 : Ct) (g2_0 : c2.iss.length ≤ 9223372036854775807 ∧ c2.hold.length ≤ 9223372036854775807) (W : World) (v0 v1 v2 : Value) (r0 : ∀ m, VR W (fun b (_ : Nat) => b < W.heap.size) m (stoA s0) v0) (r1 : ∀ m, VR W (fun b (_ : Nat) => b < W.heap.size) m (cnA b1) v1) (r2 : ∀ m, VR W (fun b (_ : Nat) => b < W.heap.size) m (ctA c2) v2) (hG : GLw W (fun b (_ : Nat) => b < W.heap.size)) :
    Calls Tryd.prog 7 #[v0, v1, v2] W fun e W' => e = .returned (.bool true) ∧ Below W.heap.size W W' := by
  refine FnS.law (lawLearns2_s s0 b1 c2 g0_0 g1_0 g2_0) W _ rfl (fun m j x u hx hu => ?_) hG
  match j, hx, hu with
  | 0, hx, hu => simp at hx hu; subst hx hu; exact r0 m
  | 1, hx, hu => simp at hx hu; subst hx hu; exact r1 m
  | 2, hx, hu => simp at hx hu; subst hx hu; exact r2 m
  | j + 3, hx, hu => simp at hx

theorem laid_met (os : Os) : laidMet Tryd.prog Rows.chipdateLearnsRow.laid ((laidWorld os).forCall (fun _ _ => 0) ⟨#[], #[.agg #[.slice none 0 0, .int .i64 0], .agg #[.string ⟨#[]⟩, .int .i64 0, .int .i64 0, .int .i64 0, .int .i64 0, .int .i64 0], .agg #[.string ⟨#[]⟩, .string ⟨#[]⟩, .int .i64 0, .int .i64 0, .int .i64 0, .int .i64 0, .int .i64 0, .int .i64 0, .int .i64 0]], []⟩).memory :=
  laidMet_of_run' 8 (by kernel_rfl) (by kernel_rfl)
theorem reads (os : Os) {H : Type} (enc : TypeId × Value → H) : ∃ places, DataW.whole enc Tryd.prog ((laidWorld os).forCall (fun _ _ => 0) ⟨#[], #[.agg #[.slice none 0 0, .int .i64 0], .agg #[.string ⟨#[]⟩, .int .i64 0, .int .i64 0, .int .i64 0, .int .i64 0, .int .i64 0], .agg #[.string ⟨#[]⟩, .string ⟨#[]⟩, .int .i64 0, .int .i64 0, .int .i64 0, .int .i64 0, .int .i64 0, .int .i64 0, .int .i64 0]], []⟩).memory Tryd.f7.params.toList Rows.chipdateLearnsSpec.vars false (#[.agg #[.slice none 0 0, .int .i64 0], .agg #[.string ⟨#[]⟩, .int .i64 0, .int .i64 0, .int .i64 0, .int .i64 0, .int .i64 0], .agg #[.string ⟨#[]⟩, .string ⟨#[]⟩, .int .i64 0, .int .i64 0, .int .i64 0, .int .i64 0, .int .i64 0, .int .i64 0, .int .i64 0]] : Array Value).toList 12 = some ([.agg [.nil, .lit (.int .i64 0)], .agg [.lit (.string []), .lit (.int .i64 0), .lit (.int .i64 0), .lit (.int .i64 0), .lit (.int .i64 0), .lit (.int .i64 0)], .agg [.lit (.string []), .lit (.string []), .lit (.int .i64 0), .lit (.int .i64 0), .lit (.int .i64 0), .lit (.int .i64 0), .lit (.int .i64 0), .agg [.lit (.int .i64 0), .lit (.int .i64 0)]]], [], places) :=
  ⟨[], by kernel_rfl⟩

set_option maxRecDepth 100000 in
theorem lifted (os : Os) (started : os.Started) (H : Type) (enc : TypeId × Value → H) (F : Stop.Interp) :
    ReturnsInHanded {} Tryd.checked os 7 .any ((OpenSpec.ofChange Rows.chipdateLearnsSpec).preRow enc Tryd.prog Tryd.f7 Rows.chipdateLearnsRow.domain false Rows.chipdateLearnsRow.laid) (((OpenSpec.ofChange Rows.chipdateLearnsSpec).at F).post enc Tryd.prog Tryd.f7 false true false false) := by
  obtain ⟨places, hx⟩ := reads os enc
  refine returnsInHanded_of_row (C := Tryd.checked) (s := OpenSpec.ofChange Rows.chipdateLearnsSpec) own_ started (by kernel_rfl) Tryd.func7
    (witness_row_at (enc := enc) (C := Tryd.checked) false (laidWorld os) #[.agg #[.slice none 0 0, .int .i64 0], .agg #[.string ⟨#[]⟩, .int .i64 0, .int .i64 0, .int .i64 0, .int .i64 0, .int .i64 0], .agg #[.string ⟨#[]⟩, .string ⟨#[]⟩, .int .i64 0, .int .i64 0, .int .i64 0, .int .i64 0, .int .i64 0, .int .i64 0, .int .i64 0]] rfl (by kernel_rfl) (by kernel_rfl) (by kernel_rfl)
      (OpenSpec.preRow_of_cond 12 hx (by kernel_rfl) (fun k hk => by cases hk) (by kernel_rfl) (laid_met os))) ?_
  clear hx
  intro W base args ds gs before hval0 hW _ _ hsz0 hL _ _
  have hval : ∀ (j : Nat) t v, Tryd.f7.params[j]? = some t → args[j]? = some v → Value.okWide Tryd.prog W .any base t v := hval0
  have hG := gl_of hL
  have hW' := hW
  obtain ⟨p, q, hA0, hV, rfl, hfz, hnd⟩ := hW
  have hA : DataW.TrodAll enc Tryd.prog W 0 (fun _ => true) true Tryd.f7.params.toList args.toList ds p := hA0
  have hsz : (DataW.weightsEach Tryd.prog (Tryd.f7.params.toList ++ (OpenSpec.ofChange Rows.chipdateLearnsSpec).bare.plain.varTypes Tryd.prog) (ds ++ gs)).all (· ≤ reachBytes) = true := hsz0
  clear hsz0
  rw [Tryd.params7] at hA hval hsz
  obtain ⟨v0, vs0, d0, ds0, p0, q0, hargs, rfl, rfl, h0, z0⟩ := trodAll_cons hA
  obtain ⟨v1, vs1, d1, ds1, p1, q1, rfl, rfl, rfl, h1, z1⟩ := trodAll_cons z0
  obtain ⟨v2, vs2, d2, ds2, p2, q2, rfl, rfl, rfl, h2, z2⟩ := trodAll_cons z1
  obtain ⟨rfl, rfl, rfl⟩ := trodAll_nil z2
  obtain rfl : args = #[v0, v1, v2] := by cases args; simp_all
  obtain ⟨rfl, rfl⟩ := trodVars_none hV
  have k0 := h0
  have lt0 := trod_below h0
  obtain ⟨cs0, rfl, _⟩ := okWide_struct Tryd.underlying24 (hval 0 24 v0 rfl rfl)
  obtain ⟨x0, ⟨s0, rfl, f0_0⟩, r0⟩ := opz_row (fun fuel => opz_sto fuel) (LtW_of hsz (j := 0) rfl rfl) h0
  have k1 := h1
  have lt1 := trod_below h1
  obtain ⟨cs1, rfl, _⟩ := okWide_struct Tryd.underlying40 (hval 1 40 v1 rfl rfl)
  obtain ⟨x1, ⟨b1, rfl, f1_0⟩, r1⟩ := opz_row (fun fuel => opz_chn fuel) (LtW_of hsz (j := 1) rfl rfl) h1
  have k2 := h2
  have lt2 := trod_below h2
  obtain ⟨cs2, rfl, _⟩ := okWide_struct Tryd.underlying44 (hval 2 44 v2 rfl rfl)
  obtain ⟨x2, ⟨c2, rfl, f2_0⟩, r2⟩ := opz_row (fun fuel => opz_ct fuel) (LtW_of hsz (j := 2) rfl rfl) h2
  refine (walk s0 f0_0 b1 f1_0 c2 f2_0 W _ _ _ r0 r1 r2 hG).mono fun e W' ⟨he, bel⟩ => ?_
  subst he
  exact ⟨_, rfl, _, _, _, [], _, [], hW', trodAll_mk1 (shut_bool Tryd.underlying4 _), (trodAll_cons_mk (Below.trod laidOut_ (by kernel_rfl) (of_decide_eq_true (by kernel_rfl)) k0 bel lt0) (trodAll_cons_mk (Below.trod laidOut_ (by kernel_rfl) (of_decide_eq_true (by kernel_rfl)) k1 bel lt1) (trodAll_cons_mk (Below.trod laidOut_ (by kernel_rfl) (of_decide_eq_true (by kernel_rfl)) k2 bel lt2) trodAll_mk0))), rfl, bel.frame _, fun h => by cases h⟩

theorem said : Rows.ChipdateLearnsSaid :=
  OpenClaim.holds_of_cond 7 Tryd.f7 rfl rfl rfl rfl rfl rfl rfl ⟨rfl, rfl, rfl, rfl, rfl⟩ rfl rfl rfl rfl rfl (by kernel_rfl) Tryd.func7 (by kernel_rfl)
    (of_decide_eq_true (by kernel_rfl)) (by unfold Func.isWrapper; first | (rw [if_pos (by decide +kernel)]; kernel_rfl) | (rw [if_neg (by decide +kernel)]; exact ⟨rfl, rfl⟩))
    (fun os started H enc _ F => by rw [OpenClaim.pre_eq_preRow]; exact lifted os started H enc F)

/-- No parameter wants a stand-in; the program's own looks are off. -/
theorem plain (f : FuncId) (fn : Func) (hf : Tryd.pinned.checked.prog.funcNamed "traveldoc/traveldoclaw25.ChipdateLearns" = some f) (hfn : Tryd.pinned.checked.prog.funcs[f]? = some fn) :
    false = Tryd.pinned.checked.prog.looks [] ∧ ∀ (j : Nat) t, fn.params[j]? = some t → Tryd.pinned.checked.prog.wantsStandIn t = false := by
  obtain rfl : f = 7 := Option.some.inj ((show Tryd.prog.funcNamed "traveldoc/traveldoclaw25.ChipdateLearns" = some 7 by kernel_rfl).symm.trans hf) |>.symm
  obtain rfl : fn = Tryd.f7 := (Option.some.inj (Tryd.func7.symm.trans hfn)).symm
  refine ⟨by kernel_rfl, fun j t ht => ?_⟩
  rw [Tryd.params7] at ht
  have hm : t ∈ [24, 40, 44] := by simpa using Array.mem_of_getElem? ht
  have hall : ([24, 40, 44].all fun u => !Tryd.prog.wantsStandIn u) = true := by kernel_rfl
  exact (show Tryd.prog.wantsStandIn t = false by simpa using List.all_eq_true.1 hall t hm)

theorem card : Rows.ChipdateLearnsCardSaid :=
  Claim7.holds_tied_plain_at .later [] _ _ _ _ said (fun _ h => by cases h) (by kernel_rfl) (fun _ h => by cases h) chipdateLearns_row_tie rfl ⟨rfl, rfl⟩ (by kernel_rfl) rfl plain (by kernel_rfl)
#print axioms card
end Go.Proofs.YtgmmdijmlnehlaaDoor.chipdateLearns
