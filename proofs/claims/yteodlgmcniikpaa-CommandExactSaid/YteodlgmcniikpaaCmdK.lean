import Derived.Test.YteodlgmcniikpaaCmdI
import Derived.Test.YteodlgmcniikpaaCmdJ
import Derived.Deep.RegionHeld3
import Derived.Deep.DrawnRows
namespace Go.Proofs.Yteodlgmcniikpaa
open Go.RowKit Go.TravelBase
set_option linter.unusedVariables false
set_option linter.unusedSimpArgs false

attribute [local go_sem ↓] Go.wp_at_zero Go.wp_at_succ
set_option maxHeartbeats 4000000 in
set_option maxRecDepth 100000 in
theorem walk_CommandExact (k : Cmd) (A : Option Addr) (n c : Nat) (A' : Option Addr) (n' c' : Nat) (b : List UInt8) (w : World) (h : Rd w A n c (bvs k.data)) (h' : Rd w A' n' c' (bvs b)) :
    Calls Try.prog 3 #[cmdV k A n c, .slice A' n' c'] w fun e w' => e = .returned (.bool true) ∧ Below w.heap.size w w' := by
  have hn := h.len
  rw [length_bvs] at hn
  have hc := h.cap
  have hm := h.max
  have E1 := fun w h => encode_any k A n c w h (by omega)
  have E2 := fun w h => rencode_any k A n c w h (by omega)
  have V1 := fun w => valid_any k A n c w hn (by omega)
  have V2 := fun w => rvalid_any k A n c w hn (by omega)
  have D1 := fun w h => decode_any A' n' c' b w h
  have D2 := fun w h => rdecode_any A' n' c' b w h
  obtain ⟨cl, ins, kp, kq, data, ex⟩ := k
  unfold cmdV at E1 E2 V1 V2 ⊢
  simp only at h hn E1 E2 V1 V2 ⊢
  generalize hx : encL ⟨cl, ins, kp, kq, data, ex⟩ = x at *
  generalize encE ⟨cl, ins, kp, kq, data, ex⟩ = xe at *
  generalize validB ⟨cl, ins, kp, kq, data, ex⟩ = vb at *
  generalize decS b = rd at *
  obtain ⟨⟨dcl, dins, dp1, dp2, dd, dex⟩, de⟩ := rd
  have D1' : Hid (∀ w, Rd w A' n' c' (bvs b) → Calls Try.prog 11 #[.slice A' n' c'] w fun e w' => ∃ A2 c2, e = .returned (.tuple #[.agg #[.int .i64 dcl, .int .i64 dins, .int .i64 dp1, .int .i64 dp2, .slice A2 dd.length c2, .int .i64 dex], .int .i64 de]) ∧ Ap w' w.heap.size 5 A2 dd.length c2 (bvs dd) ∧ Below w.heap.size w w') := D1
  have D2' : Hid (∀ w, Rd w A' n' c' (bvs b) → Calls Try.prog 12 #[.slice A' n' c'] w fun e w' => ∃ A2 c2, e = .returned (.tuple #[.agg #[.int .i64 dcl, .int .i64 dins, .int .i64 dp1, .int .i64 dp2, .slice A2 dd.length c2, .int .i64 dex], .int .i64 de]) ∧ Ap w' w.heap.size 5 A2 dd.length c2 (bvs dd) ∧ Below w.heap.size w w') := D2
  have E1' := Lib.hid E1
  have E2' := Lib.hid E2
  have V1' := Lib.hid V1
  have V2' := Lib.hid V2
  clear D1 D2 E1 E2 V1 V2 hn hc hm hx
  go_enter Try.func3, Try.ntmps3
  go_wp2_with (first
    | (go_at_call 9; go_must ((with_reducible refine (E1'.out _ (h.alloc _)).mono ?_)); rintro e w1 ⟨A1, c1, rfl, hap1, hb1⟩; have hP := (Bx.mk' w _ _).below hb1; have hB := Below.of_base ((Below.refl _ _).alloc (Nat.le_refl _) _) hb1 (by simp); clear hb1; have p0 := hP.cell 0 rfl; have p1 := hP.cell 1 rfl; have p2 := hP.cell 2 rfl; have p3 := hP.cell 3 rfl; have p4 := hP.cell 4 rfl; have p5 := hP.cell 5 rfl)
    | (go_at_call 10; go_must ((with_reducible refine (E2'.out _ (h.below hB)).mono ?_)); rintro e w2 ⟨A2, c2, rfl, hap2, hb2⟩; have P2 := hP.below hb2; have hap1' := hap1.below hb2; have hB' := Below.of_base hB hb2 hB.size; clear hP hB hap1 hb2; clear p0 p1 p2 p3 p4 p5; have hP := P2; have hB := hB'; have hap1 := hap1'; clear P2 hB' hap1'; have p0 := hP.cell 0 rfl; have p1 := hP.cell 1 rfl; have p2 := hP.cell 2 rfl; have p3 := hP.cell 3 rfl; have p4 := hP.cell 4 rfl; have p5 := hP.cell 5 rfl)
    | (go_at_call 11; go_must ((with_reducible refine (D1'.out _ (h'.below hB)).mono ?_)); rintro e w3 ⟨A3, c3, rfl, hap3, hb3⟩; have P2 := hP.below hb3; have hap1' := hap1.below hb3; have hap2' := hap2.below hb3; have hB' := Below.of_base hB hb3 hB.size; clear hP hB hap1 hap2 hb3; clear p0 p1 p2 p3 p4 p5; have hP := P2; have hB := hB'; have hap1 := hap1'; have hap2 := hap2'; clear P2 hB' hap1' hap2'; have p0 := hP.cell 0 rfl; have p1 := hP.cell 1 rfl; have p2 := hP.cell 2 rfl; have p3 := hP.cell 3 rfl; have p4 := hP.cell 4 rfl; have p5 := hP.cell 5 rfl)
    | (go_at_call 12; go_must ((with_reducible refine (D2'.out _ ((h'.below hB).alloc _)).mono ?_)); rintro e w4 ⟨A4, c4, rfl, hap4, hb4⟩; have P := ((hP.alloc _).below hb4).alloc (.cells #[.int .i64 dcl, .int .i64 dins, .int .i64 dp1, .int .i64 dp2, .slice A4 dd.length c4, .int .i64 dex] 24); have Q := ((Bx.mk' w3 _ _).below hb4).alloc (.cells #[.int .i64 dcl, .int .i64 dins, .int .i64 dp1, .int .i64 dp2, .slice A4 dd.length c4, .int .i64 dex] 24); have R := Bx.mk' w4 #[.int .i64 dcl, .int .i64 dins, .int .i64 dp1, .int .i64 dp2, .slice A4 dd.length c4, .int .i64 dex] 24; have s1 := (((hap1.alloc _).below hb4).alloc (.cells #[.int .i64 dcl, .int .i64 dins, .int .i64 dp1, .int .i64 dp2, .slice A4 dd.length c4, .int .i64 dex] 24)).rd; have s2 := (((hap2.alloc _).below hb4).alloc (.cells #[.int .i64 dcl, .int .i64 dins, .int .i64 dp1, .int .i64 dp2, .slice A4 dd.length c4, .int .i64 dex] 24)).rd; have s3 := (((hap3.alloc _).below hb4).alloc (.cells #[.int .i64 dcl, .int .i64 dins, .int .i64 dp1, .int .i64 dp2, .slice A4 dd.length c4, .int .i64 dex] 24)).rd; have s4 := (hap4.alloc (.cells #[.int .i64 dcl, .int .i64 dins, .int .i64 dp1, .int .i64 dp2, .slice A4 dd.length c4, .int .i64 dex] 24)).rd; have hB' := (Below.of_base (hB.alloc hB.size _) hb4 (hB.alloc hB.size _).size); have hB2 := hB'.alloc hB'.size (.cells #[.int .i64 dcl, .int .i64 dins, .int .i64 dp1, .int .i64 dp2, .slice A4 dd.length c4, .int .i64 dex] 24); clear hb4 hap1 hap2 hap3 hap4 hP hB; clear p0 p1 p2 p3 p4 p5))
  generalize hW : w4.alloc (.cells #[.int .i64 dcl, .int .i64 dins, .int .i64 dp1, .int .i64 dp2, .slice A4 dd.length c4, .int .i64 dex] 24) = W at *
  clear hW hB'
  have p0 := P.cell 0 rfl; have p1 := P.cell 1 rfl; have p2 := P.cell 2 rfl; have p3 := P.cell 3 rfl; have p4 := P.cell 4 rfl; have p5 := P.cell 5 rfl
  have q0 := Q.cell 0 rfl; have q1 := Q.cell 1 rfl; have q2 := Q.cell 2 rfl; have q3 := Q.cell 3 rfl; have q4 := Q.cell 4 rfl; have q5 := Q.cell 5 rfl
  have r0 := R.cell 0 rfl; have r1 := R.cell 1 rfl; have r2 := R.cell 2 rfl; have r3 := R.cell 3 rfl; have r4 := R.cell 4 rfl; have r5 := R.cell 5 rfl
  have A1' : Hid (∀ w, Calls Try.prog 13 #[] w fun e w' => e = .returned (.bool true) ∧ Below w.heap.size w w') := awake_any
  have S1 : Hid (∀ w, Rd w A1 x.length c1 (bvs x) → Rd w A2 x.length c2 (bvs x) → Calls Try.prog 16 #[.slice A1 x.length c1, .slice A2 x.length c2] w fun e w' => e = .returned (.bool true) ∧ Below w.heap.size w w') := fun w h1 h2 => by
    have h := rsame_any A1 A2 x.length c1 x.length c2 x x w h1 h2
    rw [decide_eq_true (rfl : x = x)] at h
    exact h.mono fun _ _ h => RetQ.below h
  have S2 : Hid (∀ w, Rd w A3 dd.length c3 (bvs dd) → Rd w A4 dd.length c4 (bvs dd) → Calls Try.prog 17 #[.agg #[.int .i64 dcl, .int .i64 dins, .int .i64 dp1, .int .i64 dp2, .slice A3 dd.length c3, .int .i64 dex], .agg #[.int .i64 dcl, .int .i64 dins, .int .i64 dp1, .int .i64 dp2, .slice A4 dd.length c4, .int .i64 dex]] w fun e w' => e = .returned (.bool true) ∧ Below w.heap.size w w') := fun w h1 h2 => sameC_true ⟨dcl, dins, dp1, dp2, dd, dex⟩ A3 A4 dd.length c3 c4 w h1 h2
  have hC : Below W.heap.size W W.drew := (Below.refl _ _).drew
  go_region_held3 (fun w' => w'.cell? ⟨w.heap.size, 0, none⟩ = some (.int .i64 cl) ∧ w'.cell? ⟨w.heap.size, 1, none⟩ = some (.int .i64 ins) ∧ w'.cell? ⟨w.heap.size, 2, none⟩ = some (.int .i64 kp) ∧ w'.cell? ⟨w.heap.size, 3, none⟩ = some (.int .i64 kq) ∧ w'.cell? ⟨w.heap.size, 4, none⟩ = some (.slice A n c) ∧ w'.cell? ⟨w.heap.size, 5, none⟩ = some (.int .i64 ex) ∧ w'.cell? ⟨w3.heap.size, 0, none⟩ = some (.int .i64 dcl) ∧ w'.cell? ⟨w3.heap.size, 1, none⟩ = some (.int .i64 dins) ∧ w'.cell? ⟨w3.heap.size, 2, none⟩ = some (.int .i64 dp1) ∧ w'.cell? ⟨w3.heap.size, 3, none⟩ = some (.int .i64 dp2) ∧ w'.cell? ⟨w3.heap.size, 4, none⟩ = some (.slice A3 dd.length c3) ∧ w'.cell? ⟨w3.heap.size, 5, none⟩ = some (.int .i64 dex) ∧ w'.cell? ⟨w4.heap.size, 0, none⟩ = some (.int .i64 dcl) ∧ w'.cell? ⟨w4.heap.size, 1, none⟩ = some (.int .i64 dins) ∧ w'.cell? ⟨w4.heap.size, 2, none⟩ = some (.int .i64 dp1) ∧ w'.cell? ⟨w4.heap.size, 3, none⟩ = some (.int .i64 dp2) ∧ w'.cell? ⟨w4.heap.size, 4, none⟩ = some (.slice A4 dd.length c4) ∧ w'.cell? ⟨w4.heap.size, 5, none⟩ = some (.int .i64 dex)) (exact ⟨p0, p1, p2, p3, p4, p5, q0, q1, q2, q3, q4, q5, r0, r1, r2, r3, r4, r5⟩) (first
    | (go_at_call 13; go_must ((with_reducible refine (A1'.out _).mono ?_)); rintro e w6 ⟨rfl, hb⟩; have hC' := Below.of_base hC hb hC.size; clear hC; have hC := hC'; clear hC' hb; clear p0 p1 p2 p3 p4 p5; clear q0 q1 q2 q3 q4 q5; clear r0 r1 r2 r3 r4 r5; have p0 := (P.below hC).cell 0 rfl; have p1 := (P.below hC).cell 1 rfl; have p2 := (P.below hC).cell 2 rfl; have p3 := (P.below hC).cell 3 rfl; have p4 := (P.below hC).cell 4 rfl; have p5 := (P.below hC).cell 5 rfl; have q0 := (Q.below hC).cell 0 rfl; have q1 := (Q.below hC).cell 1 rfl; have q2 := (Q.below hC).cell 2 rfl; have q3 := (Q.below hC).cell 3 rfl; have q4 := (Q.below hC).cell 4 rfl; have q5 := (Q.below hC).cell 5 rfl; have r0 := (R.below hC).cell 0 rfl; have r1 := (R.below hC).cell 1 rfl; have r2 := (R.below hC).cell 2 rfl; have r3 := (R.below hC).cell 3 rfl; have r4 := (R.below hC).cell 4 rfl; have r5 := (R.below hC).cell 5 rfl)
    | (go_at_call 14; go_must ((with_reducible refine (V1'.out _).mono ?_)); rintro e w6 ⟨rfl, hb⟩; have hC' := Below.of_base hC hb hC.size; clear hC; have hC := hC'; clear hC' hb; clear p0 p1 p2 p3 p4 p5; clear q0 q1 q2 q3 q4 q5; clear r0 r1 r2 r3 r4 r5; have p0 := (P.below hC).cell 0 rfl; have p1 := (P.below hC).cell 1 rfl; have p2 := (P.below hC).cell 2 rfl; have p3 := (P.below hC).cell 3 rfl; have p4 := (P.below hC).cell 4 rfl; have p5 := (P.below hC).cell 5 rfl; have q0 := (Q.below hC).cell 0 rfl; have q1 := (Q.below hC).cell 1 rfl; have q2 := (Q.below hC).cell 2 rfl; have q3 := (Q.below hC).cell 3 rfl; have q4 := (Q.below hC).cell 4 rfl; have q5 := (Q.below hC).cell 5 rfl; have r0 := (R.below hC).cell 0 rfl; have r1 := (R.below hC).cell 1 rfl; have r2 := (R.below hC).cell 2 rfl; have r3 := (R.below hC).cell 3 rfl; have r4 := (R.below hC).cell 4 rfl; have r5 := (R.below hC).cell 5 rfl)
    | (go_at_call 15; go_must ((with_reducible refine (V2'.out _).mono ?_)); rintro e w6 ⟨rfl, hb⟩; have hC' := Below.of_base hC hb hC.size; clear hC; have hC := hC'; clear hC' hb; clear p0 p1 p2 p3 p4 p5; clear q0 q1 q2 q3 q4 q5; clear r0 r1 r2 r3 r4 r5; have p0 := (P.below hC).cell 0 rfl; have p1 := (P.below hC).cell 1 rfl; have p2 := (P.below hC).cell 2 rfl; have p3 := (P.below hC).cell 3 rfl; have p4 := (P.below hC).cell 4 rfl; have p5 := (P.below hC).cell 5 rfl; have q0 := (Q.below hC).cell 0 rfl; have q1 := (Q.below hC).cell 1 rfl; have q2 := (Q.below hC).cell 2 rfl; have q3 := (Q.below hC).cell 3 rfl; have q4 := (Q.below hC).cell 4 rfl; have q5 := (Q.below hC).cell 5 rfl; have r0 := (R.below hC).cell 0 rfl; have r1 := (R.below hC).cell 1 rfl; have r2 := (R.below hC).cell 2 rfl; have r3 := (R.below hC).cell 3 rfl; have r4 := (R.below hC).cell 4 rfl; have r5 := (R.below hC).cell 5 rfl)
    | (go_at_call 16; go_must ((with_reducible refine (S1.out _ (s1.below hC) (s2.below hC)).mono ?_)); rintro e w6 ⟨rfl, hb⟩; have hC' := Below.of_base hC hb hC.size; clear hC; have hC := hC'; clear hC' hb; clear p0 p1 p2 p3 p4 p5; clear q0 q1 q2 q3 q4 q5; clear r0 r1 r2 r3 r4 r5; have p0 := (P.below hC).cell 0 rfl; have p1 := (P.below hC).cell 1 rfl; have p2 := (P.below hC).cell 2 rfl; have p3 := (P.below hC).cell 3 rfl; have p4 := (P.below hC).cell 4 rfl; have p5 := (P.below hC).cell 5 rfl; have q0 := (Q.below hC).cell 0 rfl; have q1 := (Q.below hC).cell 1 rfl; have q2 := (Q.below hC).cell 2 rfl; have q3 := (Q.below hC).cell 3 rfl; have q4 := (Q.below hC).cell 4 rfl; have q5 := (Q.below hC).cell 5 rfl; have r0 := (R.below hC).cell 0 rfl; have r1 := (R.below hC).cell 1 rfl; have r2 := (R.below hC).cell 2 rfl; have r3 := (R.below hC).cell 3 rfl; have r4 := (R.below hC).cell 4 rfl; have r5 := (R.below hC).cell 5 rfl)
    | (go_at_call 17; go_must ((with_reducible refine (S2.out _ (s3.below hC) (s4.below hC)).mono ?_)); rintro e w6 ⟨rfl, hb⟩; have hC' := Below.of_base hC hb hC.size; clear hC; have hC := hC'; clear hC' hb; clear p0 p1 p2 p3 p4 p5; clear q0 q1 q2 q3 q4 q5; clear r0 r1 r2 r3 r4 r5; have p0 := (P.below hC).cell 0 rfl; have p1 := (P.below hC).cell 1 rfl; have p2 := (P.below hC).cell 2 rfl; have p3 := (P.below hC).cell 3 rfl; have p4 := (P.below hC).cell 4 rfl; have p5 := (P.below hC).cell 5 rfl; have q0 := (Q.below hC).cell 0 rfl; have q1 := (Q.below hC).cell 1 rfl; have q2 := (Q.below hC).cell 2 rfl; have q3 := (Q.below hC).cell 3 rfl; have q4 := (Q.below hC).cell 4 rfl; have q5 := (Q.below hC).cell 5 rfl; have r0 := (R.below hC).cell 0 rfl; have r1 := (R.below hC).cell 1 rfl; have r2 := (R.below hC).cell 2 rfl; have r3 := (R.below hC).cell 3 rfl; have r4 := (R.below hC).cell 4 rfl; have r5 := (R.below hC).cell 5 rfl))
  all_goals
    go_wp2_with (fail)
    go_ret
    exact ⟨rfl, Below.of_base hB2 hC hB2.size⟩
end Go.Proofs.Yteodlgmcniikpaa
