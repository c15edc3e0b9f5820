import Derived.Test.YteodlgmcniikpaaCmdC
namespace Go.Proofs.Yteodlgmcniikpaa
open Go.RowKit Go.TravelBase
set_option linter.unusedVariables false
set_option linter.unusedSimpArgs false

/-! ### The bytes of a command -/
def headB (cl ins p1 p2 : Int) : List UInt8 := [UInt8.ofNat cl.toNat, UInt8.ofNat ins.toNat, UInt8.ofNat p1.toNat, UInt8.ofNat p2.toNat]
def wideB (k : Cmd) : Nat := if 255 < k.data.length ∨ 256 < k.ex then 2 else 1
def encX (k : Cmd) : List UInt8 :=
  headB k.cl k.ins k.p1 k.p2 ++ ((if wideB k = 2 then [0] else []) ++ ((if 0 < k.data.length then beS k.data.length (wideB k) ++ k.data else []) ++ (if k.ex = -1 then [] else beS k.ex.toNat (wideB k))))
def encL (k : Cmd) : List UInt8 := if validB k then encX k else []
def encE (k : Cmd) : Int := if validB k then 0 else 14

theorem Rd.litS {w : World} {T : TypeId} {cs : Array Value} {s : Nat} (hs : w.heap.size = s) (hm : cs.size ≤ maxLen) : Rd (w.alloc (.cells cs T)) (some ⟨s, 0, none⟩) cs.size cs.size cs.toList := by
  subst hs
  exact Rd.lit w T cs hm
theorem Ap.litS {w : World} {base : Nat} {T : TypeId} {cs : Array Value} {s : Nat} (hs : w.heap.size = s) (hb : base ≤ s) (hm : cs.size ≤ maxLen) : Ap (w.alloc (.cells cs T)) base T (some ⟨s, 0, none⟩) cs.size cs.size cs.toList := by
  subst hs
  exact Ap.lit w base T cs hb hm
theorem below_allocS {B : Nat} {a w : World} (h : Below B a w) (hB : B ≤ a.heap.size) (o : Obj) : Below B a (w.alloc o) := h.alloc (Nat.le_trans hB h.size) o

theorem u8_nat {x : Int} (h : 0 ≤ x) (h2 : x ≤ 255) : Value.int .u8 x = bv (UInt8.ofNat x.toNat) := by
  rw [bv_ofNat]; congr 1; omega
theorem headAp {w : World} {B : Nat} {cl ins p1 p2 : Int} (hB : B ≤ w.heap.size) (q1 : 0 ≤ ins) (q2 : ins ≤ 255) (q3 : 0 ≤ p1) (q4 : p1 ≤ 255) (q5 : 0 ≤ p2) (q6 : p2 ≤ 255) (q7 : 0 ≤ cl) (q8 : cl ≤ 254) :
    Ap (w.alloc (.cells #[.int .u8 cl, .int .u8 ins, .int .u8 p1, .int .u8 p2] 5)) B 5 (some ⟨w.heap.size, 0, none⟩) 4 4 (bvs (headB cl ins p1 p2)) := by
  have e : bvs (headB cl ins p1 p2) = [.int .u8 cl, .int .u8 ins, .int .u8 p1, .int .u8 p2] := by
    rw [u8_nat q1 q2, u8_nat q3 q4, u8_nat q5 q6, u8_nat q7 (by omega)]; rfl
  rw [e]
  exact Ap.lit w B _ #[.int .u8 cl, .int .u8 ins, .int .u8 p1, .int .u8 p2] hB (by simp [maxLen])
theorem bvs_zero (l : List UInt8) : bvs (0 :: l) = Value.int .u8 0 :: bvs l := rfl
theorem RetSE.apL {T : TypeId} {A : Option Addr} {N c : Nat} {xs : List Value} {X : List UInt8} {err : Int} {w w' : World} {B : Nat} (hB : w.heap.size ≤ B) (hx : xs = bvs X) (h : Ap w' B T A N c xs) (hb : Below w.heap.size w w') :
    RetSE T X.length (bvs X) err w (.returned (.tuple #[.slice A N c, .int .i64 err])) w' := by
  have hl := h.rd.len
  subst hx
  rw [length_bvs] at hl
  exact RetSE.apN hl.symm rfl (h.base hB) hb

/-- The world behind the boxing of a command. -/
abbrev boxW (cl ins p1 p2 ex : Int) (A : Option Addr) (n c : Nat) (w : World) : World :=
  w.alloc (.cells #[.int .i64 cl, .int .i64 ins, .int .i64 p1, .int .i64 p2, .slice A n c, .int .i64 ex] 24)
theorem boxW_cells {cl ins p1 p2 ex : Int} {A : Option Addr} {n c : Nat} {w w' : World} (h : Below (boxW cl ins p1 p2 ex A n c w).heap.size (boxW cl ins p1 p2 ex A n c w) w') :
    w'.cell? ⟨w.heap.size, 0, none⟩ = some (.int .i64 cl) ∧ w'.cell? ⟨w.heap.size, 1, none⟩ = some (.int .i64 ins) ∧ w'.cell? ⟨w.heap.size, 2, none⟩ = some (.int .i64 p1) ∧
      w'.cell? ⟨w.heap.size, 3, none⟩ = some (.int .i64 p2) ∧ w'.cell? ⟨w.heap.size, 4, none⟩ = some (.slice A n c) ∧ w'.cell? ⟨w.heap.size, 5, none⟩ = some (.int .i64 ex) ∧ w.heap.size < w'.heap.size := by
  have h1 := (Rd.lit w 24 #[.int .i64 cl, .int .i64 ins, .int .i64 p1, .int .i64 p2, .slice A n c, .int .i64 ex] (by simp [maxLen])).below h
  obtain ⟨b, off, e1, hlt, hc⟩ := h1.at_ (by simp)
  injection e1 with e1
  injection e1 with e2 e3
  subst e2 e3
  have g := fun j u hu => hc j u hu
  simp only [Nat.zero_add] at g
  exact ⟨g 0 _ rfl, g 1 _ rfl, g 2 _ rfl, g 3 _ rfl, g 4 _ rfl, g 5 _ rfl, hlt⟩

set_option maxHeartbeats 4000000 in
set_option maxRecDepth 100000 in
theorem encode_any (k : Cmd) (A : Option Addr) (n c : Nat) (w : World) (h : Rd w A n c (bvs k.data)) (hm : n ≤ 9223372036854775807) :
    Calls Try.prog 9 #[cmdV k A n c] w (RetSE 5 (encL k).length (bvs (encL k)) (encE k) w) := by
  have hn := h.len
  rw [length_bvs] at hn
  have hc := h.cap
  have hcm := h.max
  obtain ⟨i0, hi, hz0, hz1, hz2⟩ := info_parts info_u8
  have V := Lib.hid (fun w => valid_any k A n c w hn hm)
  obtain ⟨cl, ins, p1, p2, data, ex⟩ := k
  simp only at hn h
  unfold cmdV at V ⊢
  cases hv : validB ⟨cl, ins, p1, p2, data, ex⟩ with
  | false =>
    rw [hv] at V
    have e1 : encL ⟨cl, ins, p1, p2, data, ex⟩ = [] := by unfold encL; rw [hv]; rfl
    have e2 : encE ⟨cl, ins, p1, p2, data, ex⟩ = 14 := by unfold encE; rw [hv]; rfl
    rw [e1, e2]
    clear e1 e2 hv
    go_enter Try.func9, Try.ntmps9
    go_wp2_with (go_at_call 14; go_must (refine (V.out _).mono ?_); rintro e w1 ⟨rfl, hW⟩)
    go_ret2
    exact RetSE.nil' (Below.of_base ((Below.refl _ _).alloc (Nat.le_refl _) _) hW (by simp))
  | true =>
    rw [hv] at V
    have e1 : encL ⟨cl, ins, p1, p2, data, ex⟩ = encX ⟨cl, ins, p1, p2, data, ex⟩ := by unfold encL; rw [hv]; rfl
    have e2 : encE ⟨cl, ins, p1, p2, data, ex⟩ = 0 := by unfold encE; rw [hv]; rfl
    rw [e1, e2]
    clear e1 e2
    simp only [validB, octB, expOk, Bool.and_eq_true, decide_eq_true_eq] at hv
    obtain ⟨⟨⟨⟨⟨⟨q1, q2⟩, q3, q4⟩, q5, q6⟩, q7, q8⟩, q9⟩, q10⟩ := hv
    rw [hn] at q9
    have hE : ex = -1 ∨ ∃ x : Nat, ex = (x : Int) ∧ 1 ≤ x ∧ (x : Int) ≤ 65536 := by
      rcases q10 with E | ⟨E1, E2⟩
      · exact .inl E
      · exact .inr ⟨ex.toNat, by omega, by omega, by omega⟩
    clear q10
    by_cases S1 : 255 < n
    · rcases hE with rfl | ⟨x, rfl, E1, E2⟩
      · skip
        generalize hX : encX ⟨cl, ins, p1, p2, data, (-1)⟩ = X
        have HX := Lib.hid hX
        clear hX
        have N1 := Lib.hid (fun w => number2_any n (by omega) w)
        go_enter Try.func9, Try.ntmps9
        go_wp2_with (first
          | (go_at_call 14; go_must (refine (V.out _).mono ?_); rintro e w1 ⟨rfl, hW⟩; have ⟨c0, c1, c2, c3, c4, c5, hlt⟩ := boxW_cells hW; go_loud (have hap := headAp hW.size q1 q2 q3 q4 q5 q6 q7 q8; replace hW := below_allocS hW (Nat.le_refl _) (.cells #[.int .u8 cl, .int .u8 ins, .int .u8 p1, .int .u8 p2] 5)))
          | (at_builtin; refine wpList_append_apN _ rfl (.tmp 31) (.tmp 32) 22 rfl (boxW cl ins p1 p2 (-1) A n c w).heap.size 5 i0 _ 1 Try.underlying22 hi hz0 hz1 hz2 rfl _ _ _ _ rfl (hap.alloc _) _ _ _ _ rfl (Rd.litS (by simp) (by simp [maxLen])) (by intro u hu; simp at hu; subst hu; rfl) (by omega) (by unfold maxLen; omega) ((below_allocS hW (Nat.le_refl _) _).size) ?_; intro Na A3 d3 w3 ha hal hap3 hk hb3; clear hk; replace hW := (below_allocS hW (Nat.le_refl _) _).trans hb3; clear hap; have hap := hap3; clear hap3; clear c0 c1 c2 c3 c4 c5 hlt; have ⟨c0, c1, c2, c3, c4, c5, hlt⟩ := boxW_cells hW)
          | (go_at_call_of 35 (n : Int); go_must (refine (N1.out _).mono ?_); rintro e w2 ⟨A2, d2, rfl, hapn, hb2⟩; replace hap := hap.below hb2; replace hW := Below.of_base hW hb2 hW.size; clear c0 c1 c2 c3 c4 c5 hlt; have ⟨c0, c1, c2, c3, c4, c5, hlt⟩ := boxW_cells hW)
          | (at_builtin; refine wpList_append_apN _ rfl (.tmp 38) (.tmp 43) 22 rfl (boxW cl ins p1 p2 (-1) A n c w).heap.size 5 i0 _ 1 Try.underlying22 hi hz0 hz1 hz2 rfl _ _ _ _ rfl (hap) _ _ _ _ rfl hapn.rd (one_bvs _) (by omega) (by unfold maxLen; omega) (hW.size) ?_; intro Nb A3 d3 w3 hb hbl hap3 hk hb3; clear hk; replace hW := hW.trans hb3; clear hap; have hap := hap3; clear hap3; clear c0 c1 c2 c3 c4 c5 hlt; have ⟨c0, c1, c2, c3, c4, c5, hlt⟩ := boxW_cells hW)
          | (at_builtin; refine wpList_append_apN _ rfl (.tmp 45) (.tmp 47) 22 rfl (boxW cl ins p1 p2 (-1) A n c w).heap.size 5 i0 _ 1 Try.underlying22 hi hz0 hz1 hz2 rfl _ _ _ _ rfl (hap) _ _ _ _ rfl ((h.alloc _).below hW) (one_bvs _) (by omega) (by unfold maxLen; omega) (hW.size) ?_; intro Nc A3 d3 w3 hc hcl hap3 hk hb3; clear hk; replace hW := hW.trans hb3; clear hap; have hap := hap3; clear hap3; clear c0 c1 c2 c3 c4 c5 hlt; have ⟨c0, c1, c2, c3, c4, c5, hlt⟩ := boxW_cells hW))
        go_ret2
        refine RetSE.apL (by simp) ?_ hap (Below.of_base ((Below.refl _ _).alloc (Nat.le_refl _) _) hW (by simp))
        rw [← HX.out]
        unfold encX wideB
        simp only [hn]
        simp [bvs_append, bvs_zero, show bvs [] = [] from rfl, (show 255 < n from S1), (show 0 < n by omega)]
      · have b1 : ((x : Int) != -1) = true := by simp <;> omega
        generalize hX : encX ⟨cl, ins, p1, p2, data, x⟩ = X
        have HX := Lib.hid hX
        clear hX
        have N1 := Lib.hid (fun w => number2_any n (by omega) w)
        have N2 := Lib.hid (fun w => number2_any x (by omega) w)
        go_enter Try.func9, Try.ntmps9
        go_wp2_with (first
          | (go_at_call 14; go_must (refine (V.out _).mono ?_); rintro e w1 ⟨rfl, hW⟩; have ⟨c0, c1, c2, c3, c4, c5, hlt⟩ := boxW_cells hW; go_loud (have hap := headAp hW.size q1 q2 q3 q4 q5 q6 q7 q8; replace hW := below_allocS hW (Nat.le_refl _) (.cells #[.int .u8 cl, .int .u8 ins, .int .u8 p1, .int .u8 p2] 5)))
          | (at_builtin; refine wpList_append_apN _ rfl (.tmp 31) (.tmp 32) 22 rfl (boxW cl ins p1 p2 x A n c w).heap.size 5 i0 _ 1 Try.underlying22 hi hz0 hz1 hz2 rfl _ _ _ _ rfl (hap.alloc _) _ _ _ _ rfl (Rd.litS (by simp) (by simp [maxLen])) (by intro u hu; simp at hu; subst hu; rfl) (by omega) (by unfold maxLen; omega) ((below_allocS hW (Nat.le_refl _) _).size) ?_; intro Na A3 d3 w3 ha hal hap3 hk hb3; clear hk; replace hW := (below_allocS hW (Nat.le_refl _) _).trans hb3; clear hap; have hap := hap3; clear hap3; clear c0 c1 c2 c3 c4 c5 hlt; have ⟨c0, c1, c2, c3, c4, c5, hlt⟩ := boxW_cells hW)
          | (go_at_call_of 35 (n : Int); go_must (refine (N1.out _).mono ?_); rintro e w2 ⟨A2, d2, rfl, hapn, hb2⟩; replace hap := hap.below hb2; replace hW := Below.of_base hW hb2 hW.size; clear c0 c1 c2 c3 c4 c5 hlt; have ⟨c0, c1, c2, c3, c4, c5, hlt⟩ := boxW_cells hW)
          | (at_builtin; refine wpList_append_apN _ rfl (.tmp 38) (.tmp 43) 22 rfl (boxW cl ins p1 p2 x A n c w).heap.size 5 i0 _ 1 Try.underlying22 hi hz0 hz1 hz2 rfl _ _ _ _ rfl (hap) _ _ _ _ rfl hapn.rd (one_bvs _) (by omega) (by unfold maxLen; omega) (hW.size) ?_; intro Nb A3 d3 w3 hb hbl hap3 hk hb3; clear hk; replace hW := hW.trans hb3; clear hap; have hap := hap3; clear hap3; clear c0 c1 c2 c3 c4 c5 hlt; have ⟨c0, c1, c2, c3, c4, c5, hlt⟩ := boxW_cells hW)
          | (at_builtin; refine wpList_append_apN _ rfl (.tmp 45) (.tmp 47) 22 rfl (boxW cl ins p1 p2 x A n c w).heap.size 5 i0 _ 1 Try.underlying22 hi hz0 hz1 hz2 rfl _ _ _ _ rfl (hap) _ _ _ _ rfl ((h.alloc _).below hW) (one_bvs _) (by omega) (by unfold maxLen; omega) (hW.size) ?_; intro Nc A3 d3 w3 hc hcl hap3 hk hb3; clear hk; replace hW := hW.trans hb3; clear hap; have hap := hap3; clear hap3; clear c0 c1 c2 c3 c4 c5 hlt; have ⟨c0, c1, c2, c3, c4, c5, hlt⟩ := boxW_cells hW)
          | (go_at_call_of 35 (x : Int); go_must (refine (N2.out _).mono ?_); rintro e w2 ⟨A2, d2, rfl, hapn, hb2⟩; replace hap := hap.below hb2; replace hW := Below.of_base hW hb2 hW.size; clear c0 c1 c2 c3 c4 c5 hlt; have ⟨c0, c1, c2, c3, c4, c5, hlt⟩ := boxW_cells hW)
          | (at_builtin; refine wpList_append_apN _ rfl (.tmp 52) (.tmp 56) 22 rfl (boxW cl ins p1 p2 x A n c w).heap.size 5 i0 _ 1 Try.underlying22 hi hz0 hz1 hz2 rfl _ _ _ _ rfl (hap) _ _ _ _ rfl hapn.rd (one_bvs _) (by omega) (by unfold maxLen; omega) (hW.size) ?_; intro Nd A3 d3 w3 hd hdl hap3 hk hb3; clear hk; replace hW := hW.trans hb3; clear hap; have hap := hap3; clear hap3; clear c0 c1 c2 c3 c4 c5 hlt; have ⟨c0, c1, c2, c3, c4, c5, hlt⟩ := boxW_cells hW))
        go_ret2
        refine RetSE.apL (by simp) ?_ hap (Below.of_base ((Below.refl _ _).alloc (Nat.le_refl _) _) hW (by simp))
        rw [← HX.out]
        unfold encX wideB
        simp only [hn]
        simp [bvs_append, bvs_zero, show bvs [] = [] from rfl, (show 255 < n from S1), (show 0 < n by omega), (show ¬ (x : Int) = -1 by omega)]
    · rcases hE with rfl | ⟨x, rfl, E1, E2⟩
      · by_cases D : 0 < n
        · skip
          generalize hX : encX ⟨cl, ins, p1, p2, data, (-1)⟩ = X
          have HX := Lib.hid hX
          clear hX
          have N1 := Lib.hid (fun w => number1_any n (by omega) w)
          go_enter Try.func9, Try.ntmps9
          go_wp2_with (first
            | (go_at_call 14; go_must (refine (V.out _).mono ?_); rintro e w1 ⟨rfl, hW⟩; have ⟨c0, c1, c2, c3, c4, c5, hlt⟩ := boxW_cells hW; go_loud (have hap := headAp hW.size q1 q2 q3 q4 q5 q6 q7 q8; replace hW := below_allocS hW (Nat.le_refl _) (.cells #[.int .u8 cl, .int .u8 ins, .int .u8 p1, .int .u8 p2] 5)))
            | (go_at_call_of 35 (n : Int); go_must (refine (N1.out _).mono ?_); rintro e w2 ⟨A2, d2, rfl, hapn, hb2⟩; replace hap := hap.below hb2; replace hW := Below.of_base hW hb2 hW.size; clear c0 c1 c2 c3 c4 c5 hlt; have ⟨c0, c1, c2, c3, c4, c5, hlt⟩ := boxW_cells hW)
            | (at_builtin; refine wpList_append_apN _ rfl (.tmp 38) (.tmp 43) 22 rfl (boxW cl ins p1 p2 (-1) A n c w).heap.size 5 i0 _ 1 Try.underlying22 hi hz0 hz1 hz2 rfl _ _ _ _ rfl (hap) _ _ _ _ rfl hapn.rd (one_bvs _) (by omega) (by unfold maxLen; omega) (hW.size) ?_; intro Nb A3 d3 w3 hb hbl hap3 hk hb3; clear hk; replace hW := hW.trans hb3; clear hap; have hap := hap3; clear hap3; clear c0 c1 c2 c3 c4 c5 hlt; have ⟨c0, c1, c2, c3, c4, c5, hlt⟩ := boxW_cells hW)
            | (at_builtin; refine wpList_append_apN _ rfl (.tmp 45) (.tmp 47) 22 rfl (boxW cl ins p1 p2 (-1) A n c w).heap.size 5 i0 _ 1 Try.underlying22 hi hz0 hz1 hz2 rfl _ _ _ _ rfl (hap) _ _ _ _ rfl ((h.alloc _).below hW) (one_bvs _) (by omega) (by unfold maxLen; omega) (hW.size) ?_; intro Nc A3 d3 w3 hc hcl hap3 hk hb3; clear hk; replace hW := hW.trans hb3; clear hap; have hap := hap3; clear hap3; clear c0 c1 c2 c3 c4 c5 hlt; have ⟨c0, c1, c2, c3, c4, c5, hlt⟩ := boxW_cells hW))
          go_ret2
          refine RetSE.apL (by simp) ?_ hap (Below.of_base ((Below.refl _ _).alloc (Nat.le_refl _) _) hW (by simp))
          rw [← HX.out]
          unfold encX wideB
          simp only [hn]
          simp [bvs_append, bvs_zero, show bvs [] = [] from rfl, (show ¬ 255 < n by omega), (show 0 < n from D)]
        · skip
          generalize hX : encX ⟨cl, ins, p1, p2, data, (-1)⟩ = X
          have HX := Lib.hid hX
          clear hX
          go_enter Try.func9, Try.ntmps9
          go_wp2_with (first
            | (go_at_call 14; go_must (refine (V.out _).mono ?_); rintro e w1 ⟨rfl, hW⟩; have ⟨c0, c1, c2, c3, c4, c5, hlt⟩ := boxW_cells hW; go_loud (have hap := headAp hW.size q1 q2 q3 q4 q5 q6 q7 q8; replace hW := below_allocS hW (Nat.le_refl _) (.cells #[.int .u8 cl, .int .u8 ins, .int .u8 p1, .int .u8 p2] 5))))
          go_ret2
          refine RetSE.apL (by simp) ?_ hap (Below.of_base ((Below.refl _ _).alloc (Nat.le_refl _) _) hW (by simp))
          rw [← HX.out]
          unfold encX wideB
          simp only [hn]
          simp [bvs_append, bvs_zero, show bvs [] = [] from rfl, (show ¬ 255 < n by omega), (show ¬ 0 < n by omega)]
      · have b1 : ((x : Int) != -1) = true := by simp <;> omega
        by_cases S2 : (256 : Int) < x
        · by_cases D : 0 < n
          · skip
            generalize hX : encX ⟨cl, ins, p1, p2, data, x⟩ = X
            have HX := Lib.hid hX
            clear hX
            have N1 := Lib.hid (fun w => number2_any n (by omega) w)
            have N2 := Lib.hid (fun w => number2_any x (by omega) w)
            go_enter Try.func9, Try.ntmps9
            go_wp2_with (first
              | (go_at_call 14; go_must (refine (V.out _).mono ?_); rintro e w1 ⟨rfl, hW⟩; have ⟨c0, c1, c2, c3, c4, c5, hlt⟩ := boxW_cells hW; go_loud (have hap := headAp hW.size q1 q2 q3 q4 q5 q6 q7 q8; replace hW := below_allocS hW (Nat.le_refl _) (.cells #[.int .u8 cl, .int .u8 ins, .int .u8 p1, .int .u8 p2] 5)))
              | (at_builtin; refine wpList_append_apN _ rfl (.tmp 31) (.tmp 32) 22 rfl (boxW cl ins p1 p2 x A n c w).heap.size 5 i0 _ 1 Try.underlying22 hi hz0 hz1 hz2 rfl _ _ _ _ rfl (hap.alloc _) _ _ _ _ rfl (Rd.litS (by simp) (by simp [maxLen])) (by intro u hu; simp at hu; subst hu; rfl) (by omega) (by unfold maxLen; omega) ((below_allocS hW (Nat.le_refl _) _).size) ?_; intro Na A3 d3 w3 ha hal hap3 hk hb3; clear hk; replace hW := (below_allocS hW (Nat.le_refl _) _).trans hb3; clear hap; have hap := hap3; clear hap3; clear c0 c1 c2 c3 c4 c5 hlt; have ⟨c0, c1, c2, c3, c4, c5, hlt⟩ := boxW_cells hW)
              | (go_at_call_of 35 (n : Int); go_must (refine (N1.out _).mono ?_); rintro e w2 ⟨A2, d2, rfl, hapn, hb2⟩; replace hap := hap.below hb2; replace hW := Below.of_base hW hb2 hW.size; clear c0 c1 c2 c3 c4 c5 hlt; have ⟨c0, c1, c2, c3, c4, c5, hlt⟩ := boxW_cells hW)
              | (at_builtin; refine wpList_append_apN _ rfl (.tmp 38) (.tmp 43) 22 rfl (boxW cl ins p1 p2 x A n c w).heap.size 5 i0 _ 1 Try.underlying22 hi hz0 hz1 hz2 rfl _ _ _ _ rfl (hap) _ _ _ _ rfl hapn.rd (one_bvs _) (by omega) (by unfold maxLen; omega) (hW.size) ?_; intro Nb A3 d3 w3 hb hbl hap3 hk hb3; clear hk; replace hW := hW.trans hb3; clear hap; have hap := hap3; clear hap3; clear c0 c1 c2 c3 c4 c5 hlt; have ⟨c0, c1, c2, c3, c4, c5, hlt⟩ := boxW_cells hW)
              | (at_builtin; refine wpList_append_apN _ rfl (.tmp 45) (.tmp 47) 22 rfl (boxW cl ins p1 p2 x A n c w).heap.size 5 i0 _ 1 Try.underlying22 hi hz0 hz1 hz2 rfl _ _ _ _ rfl (hap) _ _ _ _ rfl ((h.alloc _).below hW) (one_bvs _) (by omega) (by unfold maxLen; omega) (hW.size) ?_; intro Nc A3 d3 w3 hc hcl hap3 hk hb3; clear hk; replace hW := hW.trans hb3; clear hap; have hap := hap3; clear hap3; clear c0 c1 c2 c3 c4 c5 hlt; have ⟨c0, c1, c2, c3, c4, c5, hlt⟩ := boxW_cells hW)
              | (go_at_call_of 35 (x : Int); go_must (refine (N2.out _).mono ?_); rintro e w2 ⟨A2, d2, rfl, hapn, hb2⟩; replace hap := hap.below hb2; replace hW := Below.of_base hW hb2 hW.size; clear c0 c1 c2 c3 c4 c5 hlt; have ⟨c0, c1, c2, c3, c4, c5, hlt⟩ := boxW_cells hW)
              | (at_builtin; refine wpList_append_apN _ rfl (.tmp 52) (.tmp 56) 22 rfl (boxW cl ins p1 p2 x A n c w).heap.size 5 i0 _ 1 Try.underlying22 hi hz0 hz1 hz2 rfl _ _ _ _ rfl (hap) _ _ _ _ rfl hapn.rd (one_bvs _) (by omega) (by unfold maxLen; omega) (hW.size) ?_; intro Nd A3 d3 w3 hd hdl hap3 hk hb3; clear hk; replace hW := hW.trans hb3; clear hap; have hap := hap3; clear hap3; clear c0 c1 c2 c3 c4 c5 hlt; have ⟨c0, c1, c2, c3, c4, c5, hlt⟩ := boxW_cells hW))
            go_ret2
            refine RetSE.apL (by simp) ?_ hap (Below.of_base ((Below.refl _ _).alloc (Nat.le_refl _) _) hW (by simp))
            rw [← HX.out]
            unfold encX wideB
            simp only [hn]
            simp [bvs_append, bvs_zero, show bvs [] = [] from rfl, (show ¬ 255 < n by omega), (show 0 < n from D), (show (256 : Int) < x from S2), (show ¬ (x : Int) = -1 by omega)]
          · skip
            generalize hX : encX ⟨cl, ins, p1, p2, data, x⟩ = X
            have HX := Lib.hid hX
            clear hX
            have N2 := Lib.hid (fun w => number2_any x (by omega) w)
            go_enter Try.func9, Try.ntmps9
            go_wp2_with (first
              | (go_at_call 14; go_must (refine (V.out _).mono ?_); rintro e w1 ⟨rfl, hW⟩; have ⟨c0, c1, c2, c3, c4, c5, hlt⟩ := boxW_cells hW; go_loud (have hap := headAp hW.size q1 q2 q3 q4 q5 q6 q7 q8; replace hW := below_allocS hW (Nat.le_refl _) (.cells #[.int .u8 cl, .int .u8 ins, .int .u8 p1, .int .u8 p2] 5)))
              | (at_builtin; refine wpList_append_apN _ rfl (.tmp 31) (.tmp 32) 22 rfl (boxW cl ins p1 p2 x A n c w).heap.size 5 i0 _ 1 Try.underlying22 hi hz0 hz1 hz2 rfl _ _ _ _ rfl (hap.alloc _) _ _ _ _ rfl (Rd.litS (by simp) (by simp [maxLen])) (by intro u hu; simp at hu; subst hu; rfl) (by omega) (by unfold maxLen; omega) ((below_allocS hW (Nat.le_refl _) _).size) ?_; intro Na A3 d3 w3 ha hal hap3 hk hb3; clear hk; replace hW := (below_allocS hW (Nat.le_refl _) _).trans hb3; clear hap; have hap := hap3; clear hap3; clear c0 c1 c2 c3 c4 c5 hlt; have ⟨c0, c1, c2, c3, c4, c5, hlt⟩ := boxW_cells hW)
              | (go_at_call_of 35 (x : Int); go_must (refine (N2.out _).mono ?_); rintro e w2 ⟨A2, d2, rfl, hapn, hb2⟩; replace hap := hap.below hb2; replace hW := Below.of_base hW hb2 hW.size; clear c0 c1 c2 c3 c4 c5 hlt; have ⟨c0, c1, c2, c3, c4, c5, hlt⟩ := boxW_cells hW)
              | (at_builtin; refine wpList_append_apN _ rfl (.tmp 52) (.tmp 56) 22 rfl (boxW cl ins p1 p2 x A n c w).heap.size 5 i0 _ 1 Try.underlying22 hi hz0 hz1 hz2 rfl _ _ _ _ rfl (hap) _ _ _ _ rfl hapn.rd (one_bvs _) (by omega) (by unfold maxLen; omega) (hW.size) ?_; intro Nd A3 d3 w3 hd hdl hap3 hk hb3; clear hk; replace hW := hW.trans hb3; clear hap; have hap := hap3; clear hap3; clear c0 c1 c2 c3 c4 c5 hlt; have ⟨c0, c1, c2, c3, c4, c5, hlt⟩ := boxW_cells hW))
            go_ret2
            refine RetSE.apL (by simp) ?_ hap (Below.of_base ((Below.refl _ _).alloc (Nat.le_refl _) _) hW (by simp))
            rw [← HX.out]
            unfold encX wideB
            simp only [hn]
            simp [bvs_append, bvs_zero, show bvs [] = [] from rfl, (show ¬ 255 < n by omega), (show ¬ 0 < n by omega), (show (256 : Int) < x from S2), (show ¬ (x : Int) = -1 by omega)]
        · by_cases D : 0 < n
          · skip
            generalize hX : encX ⟨cl, ins, p1, p2, data, x⟩ = X
            have HX := Lib.hid hX
            clear hX
            have N1 := Lib.hid (fun w => number1_any n (by omega) w)
            have N2 := Lib.hid (fun w => number1_any x (by omega) w)
            go_enter Try.func9, Try.ntmps9
            go_wp2_with (first
              | (go_at_call 14; go_must (refine (V.out _).mono ?_); rintro e w1 ⟨rfl, hW⟩; have ⟨c0, c1, c2, c3, c4, c5, hlt⟩ := boxW_cells hW; go_loud (have hap := headAp hW.size q1 q2 q3 q4 q5 q6 q7 q8; replace hW := below_allocS hW (Nat.le_refl _) (.cells #[.int .u8 cl, .int .u8 ins, .int .u8 p1, .int .u8 p2] 5)))
              | (go_at_call_of 35 (n : Int); go_must (refine (N1.out _).mono ?_); rintro e w2 ⟨A2, d2, rfl, hapn, hb2⟩; replace hap := hap.below hb2; replace hW := Below.of_base hW hb2 hW.size; clear c0 c1 c2 c3 c4 c5 hlt; have ⟨c0, c1, c2, c3, c4, c5, hlt⟩ := boxW_cells hW)
              | (at_builtin; refine wpList_append_apN _ rfl (.tmp 38) (.tmp 43) 22 rfl (boxW cl ins p1 p2 x A n c w).heap.size 5 i0 _ 1 Try.underlying22 hi hz0 hz1 hz2 rfl _ _ _ _ rfl (hap) _ _ _ _ rfl hapn.rd (one_bvs _) (by omega) (by unfold maxLen; omega) (hW.size) ?_; intro Nb A3 d3 w3 hb hbl hap3 hk hb3; clear hk; replace hW := hW.trans hb3; clear hap; have hap := hap3; clear hap3; clear c0 c1 c2 c3 c4 c5 hlt; have ⟨c0, c1, c2, c3, c4, c5, hlt⟩ := boxW_cells hW)
              | (at_builtin; refine wpList_append_apN _ rfl (.tmp 45) (.tmp 47) 22 rfl (boxW cl ins p1 p2 x A n c w).heap.size 5 i0 _ 1 Try.underlying22 hi hz0 hz1 hz2 rfl _ _ _ _ rfl (hap) _ _ _ _ rfl ((h.alloc _).below hW) (one_bvs _) (by omega) (by unfold maxLen; omega) (hW.size) ?_; intro Nc A3 d3 w3 hc hcl hap3 hk hb3; clear hk; replace hW := hW.trans hb3; clear hap; have hap := hap3; clear hap3; clear c0 c1 c2 c3 c4 c5 hlt; have ⟨c0, c1, c2, c3, c4, c5, hlt⟩ := boxW_cells hW)
              | (go_at_call_of 35 (x : Int); go_must (refine (N2.out _).mono ?_); rintro e w2 ⟨A2, d2, rfl, hapn, hb2⟩; replace hap := hap.below hb2; replace hW := Below.of_base hW hb2 hW.size; clear c0 c1 c2 c3 c4 c5 hlt; have ⟨c0, c1, c2, c3, c4, c5, hlt⟩ := boxW_cells hW)
              | (at_builtin; refine wpList_append_apN _ rfl (.tmp 52) (.tmp 56) 22 rfl (boxW cl ins p1 p2 x A n c w).heap.size 5 i0 _ 1 Try.underlying22 hi hz0 hz1 hz2 rfl _ _ _ _ rfl (hap) _ _ _ _ rfl hapn.rd (one_bvs _) (by omega) (by unfold maxLen; omega) (hW.size) ?_; intro Nd A3 d3 w3 hd hdl hap3 hk hb3; clear hk; replace hW := hW.trans hb3; clear hap; have hap := hap3; clear hap3; clear c0 c1 c2 c3 c4 c5 hlt; have ⟨c0, c1, c2, c3, c4, c5, hlt⟩ := boxW_cells hW))
            go_ret2
            refine RetSE.apL (by simp) ?_ hap (Below.of_base ((Below.refl _ _).alloc (Nat.le_refl _) _) hW (by simp))
            rw [← HX.out]
            unfold encX wideB
            simp only [hn]
            simp [bvs_append, bvs_zero, show bvs [] = [] from rfl, (show ¬ 255 < n by omega), (show 0 < n from D), (show ¬ (256 : Int) < x by omega), (show ¬ (x : Int) = -1 by omega)]
          · skip
            generalize hX : encX ⟨cl, ins, p1, p2, data, x⟩ = X
            have HX := Lib.hid hX
            clear hX
            have N2 := Lib.hid (fun w => number1_any x (by omega) w)
            go_enter Try.func9, Try.ntmps9
            go_wp2_with (first
              | (go_at_call 14; go_must (refine (V.out _).mono ?_); rintro e w1 ⟨rfl, hW⟩; have ⟨c0, c1, c2, c3, c4, c5, hlt⟩ := boxW_cells hW; go_loud (have hap := headAp hW.size q1 q2 q3 q4 q5 q6 q7 q8; replace hW := below_allocS hW (Nat.le_refl _) (.cells #[.int .u8 cl, .int .u8 ins, .int .u8 p1, .int .u8 p2] 5)))
              | (go_at_call_of 35 (x : Int); go_must (refine (N2.out _).mono ?_); rintro e w2 ⟨A2, d2, rfl, hapn, hb2⟩; replace hap := hap.below hb2; replace hW := Below.of_base hW hb2 hW.size; clear c0 c1 c2 c3 c4 c5 hlt; have ⟨c0, c1, c2, c3, c4, c5, hlt⟩ := boxW_cells hW)
              | (at_builtin; refine wpList_append_apN _ rfl (.tmp 52) (.tmp 56) 22 rfl (boxW cl ins p1 p2 x A n c w).heap.size 5 i0 _ 1 Try.underlying22 hi hz0 hz1 hz2 rfl _ _ _ _ rfl (hap) _ _ _ _ rfl hapn.rd (one_bvs _) (by omega) (by unfold maxLen; omega) (hW.size) ?_; intro Nd A3 d3 w3 hd hdl hap3 hk hb3; clear hk; replace hW := hW.trans hb3; clear hap; have hap := hap3; clear hap3; clear c0 c1 c2 c3 c4 c5 hlt; have ⟨c0, c1, c2, c3, c4, c5, hlt⟩ := boxW_cells hW))
            go_ret2
            refine RetSE.apL (by simp) ?_ hap (Below.of_base ((Below.refl _ _).alloc (Nat.le_refl _) _) hW (by simp))
            rw [← HX.out]
            unfold encX wideB
            simp only [hn]
            simp [bvs_append, bvs_zero, show bvs [] = [] from rfl, (show ¬ 255 < n by omega), (show ¬ 0 < n by omega), (show ¬ (256 : Int) < x by omega), (show ¬ (x : Int) = -1 by omega)]
end Go.Proofs.Yteodlgmcniikpaa
