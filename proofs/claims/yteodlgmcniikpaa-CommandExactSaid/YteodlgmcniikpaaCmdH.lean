import Derived.Test.YteodlgmcniikpaaBox
import Derived.Test.YteodlgmcniikpaaCmdG
namespace Go.Proofs.Yteodlgmcniikpaa
open Go.RowKit Go.TravelBase
set_option linter.unusedVariables false
set_option linter.unusedSimpArgs false

/-! ### The command of bytes -/
/-- What lies behind the head. -/
def tailS (r : List UInt8) : Option (List UInt8 × Int) :=
  if r.length = 0 then some ([], -1) else if r.length = 1 ∨ atS r 0 ≠ 0 then bodyS r 1 else bodyS (r.drop 1) 2
def zeroC : Cmd := ⟨0, 0, 0, 0, [], 0⟩
/-- The command of bytes, and the error. -/
def decS (b : List UInt8) : Cmd × Int :=
  if b.length < 4 then (zeroC, 6) else match tailS (b.drop 4) with
    | none => (zeroC, 2)
    | some (d, x) => if atS b 0 = 255 then (zeroC, 14) else (⟨atS b 0, atS b 1, atS b 2, atS b 3, d, x⟩, 0)
/-- A command and an error, handed back. -/
def RetC (r : Cmd × Int) (w : World) (e : Ending) (w' : World) : Prop :=
  ∃ A c, e = .returned (.tuple #[cmdV r.1 A r.1.data.length c, .int .i64 r.2]) ∧ Ap w' w.heap.size 5 A r.1.data.length c (bvs r.1.data) ∧ Below w.heap.size w w'
theorem RetC.zero (err : Int) {w w' : World} (hb : Below w.heap.size w w') : RetC (zeroC, err) w (.returned (.tuple #[.agg #[.int .i64 0, .int .i64 0, .int .i64 0, .int .i64 0, .slice none 0 0, .int .i64 0], .int .i64 err])) w' :=
  ⟨none, 0, rfl, Ap.empty _ _ _ _, hb⟩
theorem expS_ok {r : List UInt8} (h : r.length = 1 ∨ r.length = 2) : expOk (expS r : Int) = true := by
  have hl := numS_lt r
  have p1 : (256 : Nat) ^ 1 = 256 := by decide +kernel
  have p2 : (256 : Nat) ^ 2 = 65536 := by decide +kernel
  refine decide_eq_true (.inr ?_)
  unfold expS orS p256
  rcases h with e | e <;> rw [e] at hl ⊢ <;> split <;> omega
theorem bodyS_ok {r : List UInt8} {s : Nat} (hs : s = 1 ∨ s = 2) {d : List UInt8} {x : Int} (h : bodyS r s = some (d, x)) : d.length ≤ 4096 ∧ expOk x = true := by
  unfold bodyS at h
  split at h
  · next e =>
    injection h with h
    injection h with h1 h2
    subst h1 h2
    exact ⟨by simp, expS_ok (by omega)⟩
  · split at h
    · cases h
    · split at h
      · cases h
      · next hb =>
        injection h with h
        injection h with h1 h2
        subst h1 h2
        refine ⟨by rw [List.length_take]; omega, ?_⟩
        split
        · exact expS_ok (by rw [List.length_drop]; omega)
        · rfl
theorem tailS_ok {r : List UInt8} {d : List UInt8} {x : Int} (h : tailS r = some (d, x)) : d.length ≤ 4096 ∧ expOk x = true := by
  unfold tailS at h
  split at h
  · injection h with h
    injection h with h1 h2
    subst h1 h2
    exact ⟨by simp, rfl⟩
  · split at h
    · exact bodyS_ok (.inl rfl) h
    · exact bodyS_ok (.inr rfl) h
theorem oct_nat {x : Nat} (h : x < 256) : octB (x : Int) = true := decide_eq_true (by omega)
theorem valid_of {b0 b1 b2 b3 : Nat} {d : List UInt8} {x : Int} (h0 : b0 < 256) (h1 : b1 < 256) (h2 : b2 < 256) (h3 : b3 < 256) (hd : d.length ≤ 4096 ∧ expOk x = true) : validB ⟨b0, b1, b2, b3, d, x⟩ = decide (b0 ≠ 255) := by
  unfold validB
  simp only [oct_nat h1, oct_nat h2, oct_nat h3, hd.2, decide_eq_true hd.1, Bool.and_true, Bool.true_and]
  rw [Bool.eq_iff_iff]
  simp
  omega
theorem decW2 {w w' : World} {c1 c2 : Array Value} {T1 T2 : TypeId} (h : Below (((w.alloc (.cells c1 T1)).alloc (.cells c2 T2)).drew.drew).heap.size ((w.alloc (.cells c1 T1)).alloc (.cells c2 T2)).drew.drew w') :
    Bx w' w.heap.size c1.toList ∧ Bx w' (w.heap.size + 1) c2.toList ∧ Below w.heap.size w w' ∧ w.heap.size + 2 ≤ w'.heap.size :=
  twoBx (undrew (undrew h)) (by simp)
theorem size_cmd : (Try.prog.info? 24).map (·.size) = some 6 := by kernel_rfl
/-- The two blocks of Decode: its result and the command that is read. -/
theorem decW {w w' : World} {c1 c2 : Array Value} {T1 T2 : TypeId} (h : Below (((w.alloc (.cells c1 T1)).alloc (.cells c2 T2)).drew).heap.size ((w.alloc (.cells c1 T1)).alloc (.cells c2 T2)).drew w') :
    Bx w' w.heap.size c1.toList ∧ Bx w' (w.heap.size + 1) c2.toList ∧ Below w.heap.size w w' ∧ w.heap.size + 2 ≤ w'.heap.size :=
  twoBx (undrew h) (by simp)
set_option maxHeartbeats 6000000 in
set_option maxRecDepth 100000 in
theorem decode_any (A : Option Addr) (n c : Nat) (b : List UInt8) (w : World) (h : Rd w A n c (bvs b)) :
    Calls Try.prog 11 #[.slice A n c] w (RetC (decS b) w) := by
  have hn := h.len
  rw [length_bvs] at hn
  have hc := h.cap
  have hm := h.max
  by_cases h4 : n < 4
  · have e : decS b = (zeroC, 6) := by unfold decS; rw [if_pos (by omega)]
    rw [e]
    clear e
    go_enter Try.func11, Try.ntmps11
    go_wp2_with (fail)
    go_returns
    exact RetC.zero 6 ((Below.refl _ _).alloc (Nat.le_refl _) _)
  · have hD : Hid (decS b = match tailS (b.drop 4) with
      | none => (zeroC, 2)
      | some (d, x) => if atS b 0 = 255 then (zeroC, 14) else (⟨atS b 0, atS b 1, atS b 2, atS b 3, d, x⟩, 0)) := by show decS b = _; unfold decS; rw [if_neg (by omega)]
    obtain ⟨g, off, rfl, hg, hcell⟩ := h.cellsB (by omega)
    have c0 : w.cell? ⟨g, off, none⟩ = _ := hcell 0 (by omega)
    have c1 := hcell 1 (by omega)
    have c2 := hcell 2 (by omega)
    have c3 := hcell 3 (by omega)
    have hc4 := fun h : 4 < n => hcell 4 h
    have a0 := atS_lt b 0
    have a1 := atS_lt b 1
    have a2 := atS_lt b 2
    have a3 := atS_lt b 3
    have hR : Rd w (cutA (some ⟨g, off, none⟩) c 4) (n - 4) (c - 4) (bvs (b.drop 4)) := h.dropB (by omega)
    clear hcell
    generalize atS b 0 = b0 at *
    generalize atS b 1 = b1 at *
    generalize atS b 2 = b2 at *
    generalize atS b 3 = b3 at *
    have i0 : (0 : Int) < (n : Int) := by omega
    have i1 : (1 : Int) < (n : Int) := by omega
    have i2 : (2 : Int) < (n : Int) := by omega
    have i3 : (3 : Int) < (n : Int) := by omega
    have hl : (b.drop 4).length = n - 4 := by rw [List.length_drop]; omega
    have HL := Lib.hid hl
    clear hl
    have VO0 : ∀ d x, d.length ≤ 4096 ∧ expOk x = true → validB ⟨b0, b1, b2, b3, d, x⟩ = decide (b0 ≠ 255) := fun d x => valid_of a0 a1 a2 a3
    have VO := Lib.hid VO0
    clear VO0
    have K4 : Hid (atS (b.drop 4) 0 = atS b 4) := by show atS _ _ = _; simp [atS]
    have B4 := atS_lt b 4
    generalize atS b 4 = b4 at *
    go_enter Try.func11, Try.ntmps11
    go_wp2_with (fail)
    go_region
    rcases Nat.eq_or_lt_of_le (show 4 ≤ n by omega) with e4 | g4
    · have t0 : tailS (b.drop 4) = some ([], -1) := by unfold tailS; rw [if_pos (by have := HL.out; omega)]
      rw [t0] at hD
      simp only at hD
      have HD := Lib.hid hD
      clear hD t0
      have V0 := fun w => valid_any ⟨b0, b1, b2, b3, [], -1⟩ none 0 0 w rfl (by omega)
      rw [VO.out [] (-1) ⟨by simp, rfl⟩] at V0
      subst e4
      by_cases e255 : b0 = 255
      · rw [decide_eq_false (by simp [e255])] at V0
        have V := Lib.hid V0
        clear V0
        have E : Hid (decS b = (zeroC, 14)) := by show decS b = _; rw [HD.out.out, if_pos e255]
        clear HD e255
        go_wp2_with (first | (go_at_call 14; go_must (refine (V.out _).mono ?_); rintro e w1 ⟨rfl, hb⟩; have ⟨X1, X2, hB, hsz⟩ := decW hb; clear hb) | ((with_reducible refine at_store 2 ?_); refine wpList_store_bx w.heap.size _ _ X1 (by rfl) (by rfl) 6 size_cmd (by rfl) (by rfl) (by rfl) ?_; intro w9 X1' hg; have hB' := hB.grown hg (by omega) (by intro k hk; injection hk with hk; omega); clear X1 hB; have X1 := X1'; have hB := hB'; clear X1' hB'; have z0 := X1.cell 0 rfl; have z1 := X1.cell 1 rfl; have z2 := X1.cell 2 rfl; have z3 := X1.cell 3 rfl; have z4 := X1.cell 4 rfl; have z5 := X1.cell 5 rfl) | ((with_reducible refine at_load 4 ?_); refine wpList_load_bx (w.heap.size + 1) _ _ 6 X2 (by rfl) Try.underlying24 size_cmd (by rfl) ?_))
        all_goals
          (try simp only [Exit.inBlock, Exit.then]); refine bodyPost_ret (by simp [results, Try.results11, go_sem, z0, z1, z2, z3, z4, z5]; rfl) rfl ?_
          rw [E.out]
          exact RetC.zero 14 hB
      · rw [decide_eq_true e255] at V0
        have V := Lib.hid V0
        clear V0
        have E : Hid (decS b = (⟨b0, b1, b2, b3, [], -1⟩, 0)) := by show decS b = _; rw [HD.out.out, if_neg e255]
        clear HD e255
        go_wp2_with (first | (go_at_call 14; go_must (refine (V.out _).mono ?_); rintro e w1 ⟨rfl, hb⟩; have ⟨X1, X2, hB, hsz⟩ := decW hb; clear hb) | ((with_reducible refine at_store 2 ?_); refine wpList_store_bx w.heap.size _ _ X1 (by rfl) (by rfl) 6 size_cmd (by rfl) (by rfl) (by rfl) ?_; intro w9 X1' hg; have hB' := hB.grown hg (by omega) (by intro k hk; injection hk with hk; omega); clear X1 hB; have X1 := X1'; have hB := hB'; clear X1' hB'; have z0 := X1.cell 0 rfl; have z1 := X1.cell 1 rfl; have z2 := X1.cell 2 rfl; have z3 := X1.cell 3 rfl; have z4 := X1.cell 4 rfl; have z5 := X1.cell 5 rfl) | ((with_reducible refine at_load 4 ?_); refine wpList_load_bx (w.heap.size + 1) _ _ 6 X2 (by rfl) Try.underlying24 size_cmd (by rfl) ?_))
        all_goals
          (try simp only [Exit.inBlock, Exit.then]); refine bodyPost_ret (by simp [results, Try.results11, go_sem, z0, z1, z2, z3, z4, z5]; rfl) rfl ?_
          rw [E.out]
          exact ⟨none, 0, rfl, Ap.empty _ _ _ _, hB⟩
    · have hR1 : Rd w (some ⟨g, off + 4, none⟩) (n - 4) (c - 4) (bvs (b.drop 4)) := by
        unfold cutA at hR
        rw [if_neg (by omega)] at hR
        simpa [add_plain] using hR
      clear hR
      have c4 := hc4 g4
      clear hc4
      have g5 : (((n - 4 : Nat) : Int) == 0) = false := by simp; omega
      by_cases hs : n = 5 ∨ b4 ≠ 0
      · have ht : tailS (b.drop 4) = bodyS (b.drop 4) 1 := by unfold tailS; rw [if_neg (by have := HL.out; omega), if_pos (by rw [K4.out, HL.out]; omega)]
        rw [ht] at hD
        have TO := @tailS_ok (b.drop 4)
        rw [ht] at TO
        have hB1 := fun w => body_any b0 b1 b2 b3 (some ⟨g, off + 4, none⟩) (n - 4) (c - 4) (b.drop 4) 1 (.inl rfl) w
        clear ht
        generalize bodyS (b.drop 4) 1 = o at *
        cases o with
        | none =>
          have E := Lib.hid hD.out
          clear hD TO
          have BD : Hid (∀ w', Rd w' (some ⟨g, off + 4, none⟩) (n - 4) (c - 4) (bvs (b.drop 4)) → Calls Try.prog 36 #[.agg #[.int .i64 b0, .int .i64 b1, .int .i64 b2, .int .i64 b3, .slice none 0 0, .int .i64 (-1)], .slice (some ⟨g, off + 4, none⟩) (n - 4) (c - 4), .int .i64 1] w' (RetB b0 b1 b2 b3 none w')) := hB1
          clear hB1
          by_cases h5 : n = 5
          · have h5i : (((n - 4 : Nat) : Int) == 1) = true := by simp; omega
            clear h5 hs
            go_wp2_with (first | (go_at_call 36; go_must ((with_reducible refine (BD.out _ ((hR1.alloc _).alloc _).drew).mono ?_)); rintro e w1 ⟨hb, rfl⟩; have ⟨X1, X2, hB, hsz⟩ := decW hb; clear hb) | ((with_reducible refine at_store 2 ?_); refine wpList_store_bx w.heap.size _ _ X1 (by rfl) (by rfl) 6 size_cmd (by rfl) (by rfl) (by rfl) ?_; intro w9 X1' hg; have hB' := hB.grown hg (by omega) (by intro k hk; injection hk with hk; omega); clear X1 hB; have X1 := X1'; have hB := hB'; clear X1' hB'; have z0 := X1.cell 0 rfl; have z1 := X1.cell 1 rfl; have z2 := X1.cell 2 rfl; have z3 := X1.cell 3 rfl; have z4 := X1.cell 4 rfl; have z5 := X1.cell 5 rfl) | ((with_reducible refine at_store 4 ?_); refine wpList_store_bx (w.heap.size + 1) _ _ X2 (by rfl) (by rfl) 6 size_cmd (by rfl) (by rfl) (by rfl) ?_; intro w9 X2' hg; have hB' := hB.grown hg (by omega) (by intro k hk; injection hk with hk; omega); have X1' := X1.far' hg (by omega); have hsz' := Nat.le_trans hsz hg.size; clear X1 X2 hB hg hsz; have X1 := X1'; have X2 := X2'; have hB := hB'; have hsz := hsz'; clear X1' X2' hB' hsz') | ((with_reducible refine at_load 4 ?_); refine wpList_load_bx (w.heap.size + 1) _ _ 6 X2 (by rfl) Try.underlying24 size_cmd (by rfl) ?_))
            (try simp only [Exit.inBlock, Exit.then]); refine bodyPost_ret (by simp [results, Try.results11, go_sem, z0, z1, z2, z3, z4, z5]; rfl) rfl ?_
            rw [E.out]
            exact RetC.zero 2 hB
          · have h5i : (((n - 4 : Nat) : Int) == 1) = false := by simp; omega
            have hbi : ((b4 : Int) != 0) = true := by simp; omega
            clear h5 hs
            go_wp2_with (first | (go_at_call 36; go_must ((with_reducible refine (BD.out _ ((hR1.alloc _).alloc _).drew).mono ?_)); rintro e w1 ⟨hb, rfl⟩; have ⟨X1, X2, hB, hsz⟩ := decW hb; clear hb) | ((with_reducible refine at_store 2 ?_); refine wpList_store_bx w.heap.size _ _ X1 (by rfl) (by rfl) 6 size_cmd (by rfl) (by rfl) (by rfl) ?_; intro w9 X1' hg; have hB' := hB.grown hg (by omega) (by intro k hk; injection hk with hk; omega); clear X1 hB; have X1 := X1'; have hB := hB'; clear X1' hB'; have z0 := X1.cell 0 rfl; have z1 := X1.cell 1 rfl; have z2 := X1.cell 2 rfl; have z3 := X1.cell 3 rfl; have z4 := X1.cell 4 rfl; have z5 := X1.cell 5 rfl) | ((with_reducible refine at_store 4 ?_); refine wpList_store_bx (w.heap.size + 1) _ _ X2 (by rfl) (by rfl) 6 size_cmd (by rfl) (by rfl) (by rfl) ?_; intro w9 X2' hg; have hB' := hB.grown hg (by omega) (by intro k hk; injection hk with hk; omega); have X1' := X1.far' hg (by omega); have hsz' := Nat.le_trans hsz hg.size; clear X1 X2 hB hg hsz; have X1 := X1'; have X2 := X2'; have hB := hB'; have hsz := hsz'; clear X1' X2' hB' hsz') | ((with_reducible refine at_load 4 ?_); refine wpList_load_bx (w.heap.size + 1) _ _ 6 X2 (by rfl) Try.underlying24 size_cmd (by rfl) ?_))
            (try simp only [Exit.inBlock, Exit.then]); refine bodyPost_ret (by simp [results, Try.results11, go_sem, z0, z1, z2, z3, z4, z5]; rfl) rfl ?_
            rw [E.out]
            exact RetC.zero 2 hB
        | some p =>
          obtain ⟨d, x⟩ := p
          have T := TO rfl
          have V0 : ∀ A c w, _ := fun A c w => valid_any ⟨b0, b1, b2, b3, d, x⟩ A d.length c w rfl (by have := T.1; omega)
          rw [VO.out d x T] at V0
          simp only [cmdV] at V0
          have BD : Hid (∀ w', Rd w' (some ⟨g, off + 4, none⟩) (n - 4) (c - 4) (bvs (b.drop 4)) → Calls Try.prog 36 #[.agg #[.int .i64 b0, .int .i64 b1, .int .i64 b2, .int .i64 b3, .slice none 0 0, .int .i64 (-1)], .slice (some ⟨g, off + 4, none⟩) (n - 4) (c - 4), .int .i64 1] w' (RetB b0 b1 b2 b3 (some (d, x)) w')) := hB1
          clear hB1 TO
          by_cases h5 : n = 5
          · have h5i : (((n - 4 : Nat) : Int) == 1) = true := by simp; omega
            clear h5 hs
            by_cases e255 : b0 = 255
            · have E : Hid (decS b = (zeroC, 14)) := hD.out.trans (if_pos e255)
              rw [decide_eq_false (by simp [e255])] at V0
              have V := Lib.hid V0
              clear V0
              clear hD e255
              go_wp2_with (first | (go_at_call 36; go_must ((with_reducible refine (BD.out _ ((hR1.alloc _).alloc _).drew).mono ?_)); rintro e w1 ⟨hb, A1, d1, rfl, hap0⟩; have ⟨X1, X2, hB, hsz⟩ := decW hb; have hap := hap0.base (base' := w.heap.size + 2) (by simp); clear hb hap0) | ((with_reducible refine at_store 2 ?_); refine wpList_store_bx w.heap.size _ _ X1 (by rfl) (by rfl) 6 size_cmd (by rfl) (by rfl) (by rfl) ?_; intro w9 X1' hg; have hB' := hB.grown hg (by omega) (by intro k hk; injection hk with hk; omega); have hap' := ap_grown hap hg (by omega); clear X1 hB hap; have X1 := X1'; have hB := hB'; have hap := hap'; clear X1' hB' hap'; have z0 := X1.cell 0 rfl; have z1 := X1.cell 1 rfl; have z2 := X1.cell 2 rfl; have z3 := X1.cell 3 rfl; have z4 := X1.cell 4 rfl; have z5 := X1.cell 5 rfl) | ((with_reducible refine at_store 4 ?_); refine wpList_store_bx (w.heap.size + 1) _ _ X2 (by rfl) (by rfl) 6 size_cmd (by rfl) (by rfl) (by rfl) ?_; intro w9 X2' hg; have hB' := hB.grown hg (by omega) (by intro k hk; injection hk with hk; omega); have X1' := X1.far' hg (by omega); have hsz' := Nat.le_trans hsz hg.size; have hap' := ap_grown hap hg (by omega); clear X1 X2 hB hg hsz hap; have X1 := X1'; have X2 := X2'; have hB := hB'; have hsz := hsz'; have hap := hap'; clear X1' X2' hB' hsz' hap') | ((with_reducible refine at_load 4 ?_); refine wpList_load_bx (w.heap.size + 1) _ _ 6 X2 (by rfl) Try.underlying24 size_cmd (by rfl) ?_) | (go_at_call 14; go_must ((with_reducible refine (V.out _ _ _).mono ?_)); rintro e w1 ⟨rfl, hb⟩; have hap' := hap.below hb; clear hap; have hap := hap'; clear hap'; have X1' := X1.below hb; have X2' := X2.below hb; have hB' := Below.of_base hB hb hB.size; have hsz' := Nat.le_trans hsz hb.size; clear X1 X2 hB hsz; have X1 := X1'; have X2 := X2'; have hB := hB'; have hsz := hsz'; clear X1' X2' hB' hsz'; clear hb))
              (try simp only [Exit.inBlock, Exit.then]); refine bodyPost_ret (by simp [results, Try.results11, go_sem, z0, z1, z2, z3, z4, z5]; rfl) rfl ?_
              rw [E.out]
              exact RetC.zero 14 hB
            · have E : Hid (decS b = (⟨b0, b1, b2, b3, d, x⟩, 0)) := hD.out.trans (if_neg e255)
              rw [decide_eq_true e255] at V0
              have V := Lib.hid V0
              clear V0
              clear hD e255
              go_wp2_with (first | (go_at_call 36; go_must ((with_reducible refine (BD.out _ ((hR1.alloc _).alloc _).drew).mono ?_)); rintro e w1 ⟨hb, A1, d1, rfl, hap0⟩; have ⟨X1, X2, hB, hsz⟩ := decW hb; have hap := hap0.base (base' := w.heap.size + 2) (by simp); clear hb hap0) | ((with_reducible refine at_store 2 ?_); refine wpList_store_bx w.heap.size _ _ X1 (by rfl) (by rfl) 6 size_cmd (by rfl) (by rfl) (by rfl) ?_; intro w9 X1' hg; have hB' := hB.grown hg (by omega) (by intro k hk; injection hk with hk; omega); have hap' := ap_grown hap hg (by omega); clear X1 hB hap; have X1 := X1'; have hB := hB'; have hap := hap'; clear X1' hB' hap'; have z0 := X1.cell 0 rfl; have z1 := X1.cell 1 rfl; have z2 := X1.cell 2 rfl; have z3 := X1.cell 3 rfl; have z4 := X1.cell 4 rfl; have z5 := X1.cell 5 rfl) | ((with_reducible refine at_store 4 ?_); refine wpList_store_bx (w.heap.size + 1) _ _ X2 (by rfl) (by rfl) 6 size_cmd (by rfl) (by rfl) (by rfl) ?_; intro w9 X2' hg; have hB' := hB.grown hg (by omega) (by intro k hk; injection hk with hk; omega); have X1' := X1.far' hg (by omega); have hsz' := Nat.le_trans hsz hg.size; have hap' := ap_grown hap hg (by omega); clear X1 X2 hB hg hsz hap; have X1 := X1'; have X2 := X2'; have hB := hB'; have hsz := hsz'; have hap := hap'; clear X1' X2' hB' hsz' hap') | ((with_reducible refine at_load 4 ?_); refine wpList_load_bx (w.heap.size + 1) _ _ 6 X2 (by rfl) Try.underlying24 size_cmd (by rfl) ?_) | (go_at_call 14; go_must ((with_reducible refine (V.out _ _ _).mono ?_)); rintro e w1 ⟨rfl, hb⟩; have hap' := hap.below hb; clear hap; have hap := hap'; clear hap'; have X1' := X1.below hb; have X2' := X2.below hb; have hB' := Below.of_base hB hb hB.size; have hsz' := Nat.le_trans hsz hb.size; clear X1 X2 hB hsz; have X1 := X1'; have X2 := X2'; have hB := hB'; have hsz := hsz'; clear X1' X2' hB' hsz'; clear hb))
              (try simp only [Exit.inBlock, Exit.then]); refine bodyPost_ret (by simp [results, Try.results11, go_sem, z0, z1, z2, z3, z4, z5]; rfl) rfl ?_
              rw [E.out]
              exact ⟨_, _, rfl, hap.base (by omega), hB⟩
          · have h5i : (((n - 4 : Nat) : Int) == 1) = false := by simp; omega
            have hbi : ((b4 : Int) != 0) = true := by simp; omega
            clear h5 hs
            by_cases e255 : b0 = 255
            · have E : Hid (decS b = (zeroC, 14)) := hD.out.trans (if_pos e255)
              rw [decide_eq_false (by simp [e255])] at V0
              have V := Lib.hid V0
              clear V0
              clear hD e255
              go_wp2_with (first | (go_at_call 36; go_must ((with_reducible refine (BD.out _ ((hR1.alloc _).alloc _).drew).mono ?_)); rintro e w1 ⟨hb, A1, d1, rfl, hap0⟩; have ⟨X1, X2, hB, hsz⟩ := decW hb; have hap := hap0.base (base' := w.heap.size + 2) (by simp); clear hb hap0) | ((with_reducible refine at_store 2 ?_); refine wpList_store_bx w.heap.size _ _ X1 (by rfl) (by rfl) 6 size_cmd (by rfl) (by rfl) (by rfl) ?_; intro w9 X1' hg; have hB' := hB.grown hg (by omega) (by intro k hk; injection hk with hk; omega); have hap' := ap_grown hap hg (by omega); clear X1 hB hap; have X1 := X1'; have hB := hB'; have hap := hap'; clear X1' hB' hap'; have z0 := X1.cell 0 rfl; have z1 := X1.cell 1 rfl; have z2 := X1.cell 2 rfl; have z3 := X1.cell 3 rfl; have z4 := X1.cell 4 rfl; have z5 := X1.cell 5 rfl) | ((with_reducible refine at_store 4 ?_); refine wpList_store_bx (w.heap.size + 1) _ _ X2 (by rfl) (by rfl) 6 size_cmd (by rfl) (by rfl) (by rfl) ?_; intro w9 X2' hg; have hB' := hB.grown hg (by omega) (by intro k hk; injection hk with hk; omega); have X1' := X1.far' hg (by omega); have hsz' := Nat.le_trans hsz hg.size; have hap' := ap_grown hap hg (by omega); clear X1 X2 hB hg hsz hap; have X1 := X1'; have X2 := X2'; have hB := hB'; have hsz := hsz'; have hap := hap'; clear X1' X2' hB' hsz' hap') | ((with_reducible refine at_load 4 ?_); refine wpList_load_bx (w.heap.size + 1) _ _ 6 X2 (by rfl) Try.underlying24 size_cmd (by rfl) ?_) | (go_at_call 14; go_must ((with_reducible refine (V.out _ _ _).mono ?_)); rintro e w1 ⟨rfl, hb⟩; have hap' := hap.below hb; clear hap; have hap := hap'; clear hap'; have X1' := X1.below hb; have X2' := X2.below hb; have hB' := Below.of_base hB hb hB.size; have hsz' := Nat.le_trans hsz hb.size; clear X1 X2 hB hsz; have X1 := X1'; have X2 := X2'; have hB := hB'; have hsz := hsz'; clear X1' X2' hB' hsz'; clear hb))
              (try simp only [Exit.inBlock, Exit.then]); refine bodyPost_ret (by simp [results, Try.results11, go_sem, z0, z1, z2, z3, z4, z5]; rfl) rfl ?_
              rw [E.out]
              exact RetC.zero 14 hB
            · have E : Hid (decS b = (⟨b0, b1, b2, b3, d, x⟩, 0)) := hD.out.trans (if_neg e255)
              rw [decide_eq_true e255] at V0
              have V := Lib.hid V0
              clear V0
              clear hD e255
              go_wp2_with (first | (go_at_call 36; go_must ((with_reducible refine (BD.out _ ((hR1.alloc _).alloc _).drew).mono ?_)); rintro e w1 ⟨hb, A1, d1, rfl, hap0⟩; have ⟨X1, X2, hB, hsz⟩ := decW hb; have hap := hap0.base (base' := w.heap.size + 2) (by simp); clear hb hap0) | ((with_reducible refine at_store 2 ?_); refine wpList_store_bx w.heap.size _ _ X1 (by rfl) (by rfl) 6 size_cmd (by rfl) (by rfl) (by rfl) ?_; intro w9 X1' hg; have hB' := hB.grown hg (by omega) (by intro k hk; injection hk with hk; omega); have hap' := ap_grown hap hg (by omega); clear X1 hB hap; have X1 := X1'; have hB := hB'; have hap := hap'; clear X1' hB' hap'; have z0 := X1.cell 0 rfl; have z1 := X1.cell 1 rfl; have z2 := X1.cell 2 rfl; have z3 := X1.cell 3 rfl; have z4 := X1.cell 4 rfl; have z5 := X1.cell 5 rfl) | ((with_reducible refine at_store 4 ?_); refine wpList_store_bx (w.heap.size + 1) _ _ X2 (by rfl) (by rfl) 6 size_cmd (by rfl) (by rfl) (by rfl) ?_; intro w9 X2' hg; have hB' := hB.grown hg (by omega) (by intro k hk; injection hk with hk; omega); have X1' := X1.far' hg (by omega); have hsz' := Nat.le_trans hsz hg.size; have hap' := ap_grown hap hg (by omega); clear X1 X2 hB hg hsz hap; have X1 := X1'; have X2 := X2'; have hB := hB'; have hsz := hsz'; have hap := hap'; clear X1' X2' hB' hsz' hap') | ((with_reducible refine at_load 4 ?_); refine wpList_load_bx (w.heap.size + 1) _ _ 6 X2 (by rfl) Try.underlying24 size_cmd (by rfl) ?_) | (go_at_call 14; go_must ((with_reducible refine (V.out _ _ _).mono ?_)); rintro e w1 ⟨rfl, hb⟩; have hap' := hap.below hb; clear hap; have hap := hap'; clear hap'; have X1' := X1.below hb; have X2' := X2.below hb; have hB' := Below.of_base hB hb hB.size; have hsz' := Nat.le_trans hsz hb.size; clear X1 X2 hB hsz; have X1 := X1'; have X2 := X2'; have hB := hB'; have hsz := hsz'; clear X1' X2' hB' hsz'; clear hb))
              (try simp only [Exit.inBlock, Exit.then]); refine bodyPost_ret (by simp [results, Try.results11, go_sem, z0, z1, z2, z3, z4, z5]; rfl) rfl ?_
              rw [E.out]
              exact ⟨_, _, rfl, hap.base (by omega), hB⟩
      · have n6 : 6 ≤ n := by omega
        have hb0 : b4 = 0 := by omega
        subst hb0
        have ht : tailS (b.drop 4) = bodyS ((b.drop 4).drop 1) 2 := by unfold tailS; rw [if_neg (by have := HL.out; omega), if_neg (by rw [K4.out, HL.out]; omega)]
        have hR2 : Rd w (some ⟨g, off + 4 + 1, none⟩) (n - 4 - 1) (c - 4 - 1) (bvs ((b.drop 4).drop 1)) := by
          have h1 := hR1.dropB (k := 1) (by omega)
          unfold cutA at h1
          rw [if_neg (by omega)] at h1
          simpa [add_plain] using h1
        rw [ht] at hD
        have TO := @tailS_ok (b.drop 4)
        rw [ht] at TO
        have hB1 := fun w => body_any b0 b1 b2 b3 (some ⟨g, off + 4 + 1, none⟩) (n - 4 - 1) (c - 4 - 1) ((b.drop 4).drop 1) 2 (.inr rfl) w
        have h5i : (((n - 4 : Nat) : Int) == 1) = false := by simp; omega
        have hs1 : (1 : Int) ≤ ((n - 4 : Nat) : Int) := by omega
        have hs2 : ¬ (c - 4 = 1) := by omega
        clear ht hs
        generalize bodyS ((b.drop 4).drop 1) 2 = o at *
        cases o with
        | none =>
          have E := Lib.hid hD.out
          clear hD TO
          have BD : Hid (∀ w', Rd w' (some ⟨g, off + 4 + 1, none⟩) (n - 4 - 1) (c - 4 - 1) (bvs ((b.drop 4).drop 1)) → Calls Try.prog 36 #[.agg #[.int .i64 b0, .int .i64 b1, .int .i64 b2, .int .i64 b3, .slice none 0 0, .int .i64 (-1)], .slice (some ⟨g, off + 4 + 1, none⟩) (n - 4 - 1) (c - 4 - 1), .int .i64 2] w' (RetB b0 b1 b2 b3 none w')) := hB1
          clear hB1
          go_wp2_with (fail)
          go_region_law (first | (go_simp; go_at_call 36; go_must ((with_reducible refine (BD.out _ ((hR2.alloc _).alloc _).drew.drew).mono ?_)); rintro e w1 ⟨hb, rfl⟩; have ⟨X1, X2, hB, hsz⟩ := decW2 hb; clear hb; have y0 := X2.cell 0 rfl; have y1 := X2.cell 1 rfl; have y2 := X2.cell 2 rfl; have y3 := X2.cell 3 rfl; have y4 := X2.cell 4 rfl; have y5 := X2.cell 5 rfl; have y6 := fun j => X2.free j))
          all_goals
            have ⟨X1', X2', hB', hsz'⟩ := set6 X1 X2 hB hsz (.int .i64 b0) (.int .i64 b1) (.int .i64 b2) (.int .i64 b3) (.slice none 0 0) (.int .i64 (-1)); clear X1 X2 hB hsz y0 y1 y2 y3 y4 y5 y6; have X1 := X1'; have X2 := X2'; have hB := hB'; have hsz := hsz'; clear X1' X2' hB' hsz'
            go_wp2_with (first | ((with_reducible refine at_store 2 ?_); refine wpList_store_bx w.heap.size _ _ X1 (by rfl) (by rfl) 6 size_cmd (by rfl) (by rfl) (by rfl) ?_; intro w9 X1' hg; have hB' := hB.grown hg (by omega) (by intro k hk; injection hk with hk; omega); clear X1 hB; have X1 := X1'; have hB := hB'; clear X1' hB'; have z0 := X1.cell 0 rfl; have z1 := X1.cell 1 rfl; have z2 := X1.cell 2 rfl; have z3 := X1.cell 3 rfl; have z4 := X1.cell 4 rfl; have z5 := X1.cell 5 rfl) | ((with_reducible refine at_load 4 ?_); refine wpList_load_bx (w.heap.size + 1) _ _ 6 X2 (by rfl) Try.underlying24 size_cmd (by rfl) ?_))
            (try simp only [Exit.inBlock, Exit.then]); refine bodyPost_ret (by simp [results, Try.results11, go_sem, z0, z1, z2, z3, z4, z5]; rfl) rfl ?_
            rw [E.out]
            exact RetC.zero 2 hB
        | some p =>
          obtain ⟨d, x⟩ := p
          have T := TO rfl
          have V0 : ∀ A c w, _ := fun A c w => valid_any ⟨b0, b1, b2, b3, d, x⟩ A d.length c w rfl (by have := T.1; omega)
          rw [VO.out d x T] at V0
          simp only [cmdV] at V0
          have BD : Hid (∀ w', Rd w' (some ⟨g, off + 4 + 1, none⟩) (n - 4 - 1) (c - 4 - 1) (bvs ((b.drop 4).drop 1)) → Calls Try.prog 36 #[.agg #[.int .i64 b0, .int .i64 b1, .int .i64 b2, .int .i64 b3, .slice none 0 0, .int .i64 (-1)], .slice (some ⟨g, off + 4 + 1, none⟩) (n - 4 - 1) (c - 4 - 1), .int .i64 2] w' (RetB b0 b1 b2 b3 (some (d, x)) w')) := hB1
          clear hB1 TO
          by_cases e255 : b0 = 255
          · have E : Hid (decS b = (zeroC, 14)) := hD.out.trans (if_pos e255)
            rw [decide_eq_false (by simp [e255])] at V0
            have V := Lib.hid V0
            clear hD e255 V0
            go_wp2_with (fail)
            go_region_law (first | (go_simp; go_at_call 36; go_must ((with_reducible refine (BD.out _ ((hR2.alloc _).alloc _).drew.drew).mono ?_)); rintro e w1 ⟨hb, A1, d1, rfl, hap0⟩; have ⟨X1, X2, hB, hsz⟩ := decW2 hb; have y0 := X2.cell 0 rfl; have y1 := X2.cell 1 rfl; have y2 := X2.cell 2 rfl; have y3 := X2.cell 3 rfl; have y4 := X2.cell 4 rfl; have y5 := X2.cell 5 rfl; have y6 := fun j => X2.free j; have hap := hap0.base (base' := w.heap.size + 2) (by simp); clear hb hap0))
            all_goals
              have hap' := ap_setCell (ap_setCell (ap_setCell (ap_setCell (ap_setCell (ap_setCell hap (a := ⟨w.heap.size + 1, 0, none⟩) (by simp) (.int .i64 b0)) (a := ⟨w.heap.size + 1, 1, none⟩) (by simp) (.int .i64 b1)) (a := ⟨w.heap.size + 1, 2, none⟩) (by simp) (.int .i64 b2)) (a := ⟨w.heap.size + 1, 3, none⟩) (by simp) (.int .i64 b3)) (a := ⟨w.heap.size + 1, 4, none⟩) (by simp) (.slice A1 d.length d1)) (a := ⟨w.heap.size + 1, 5, none⟩) (by simp) (.int .i64 x)
              clear hap
              have hap := hap'
              clear hap'
              have ⟨X1', X2', hB', hsz'⟩ := set6 X1 X2 hB hsz (.int .i64 b0) (.int .i64 b1) (.int .i64 b2) (.int .i64 b3) (.slice A1 d.length d1) (.int .i64 x); clear X1 X2 hB hsz y0 y1 y2 y3 y4 y5 y6; have X1 := X1'; have X2 := X2'; have hB := hB'; have hsz := hsz'; clear X1' X2' hB' hsz'
              go_wp2_with (first | ((with_reducible refine at_store 2 ?_); refine wpList_store_bx w.heap.size _ _ X1 (by rfl) (by rfl) 6 size_cmd (by rfl) (by rfl) (by rfl) ?_; intro w9 X1' hg; have hB' := hB.grown hg (by omega) (by intro k hk; injection hk with hk; omega); have hap' := ap_grown hap hg (by omega); clear X1 hB hap; have X1 := X1'; have hB := hB'; have hap := hap'; clear X1' hB' hap'; have z0 := X1.cell 0 rfl; have z1 := X1.cell 1 rfl; have z2 := X1.cell 2 rfl; have z3 := X1.cell 3 rfl; have z4 := X1.cell 4 rfl; have z5 := X1.cell 5 rfl) | ((with_reducible refine at_load 4 ?_); refine wpList_load_bx (w.heap.size + 1) _ _ 6 X2 (by rfl) Try.underlying24 size_cmd (by rfl) ?_) | (go_at_call 14; go_must ((with_reducible refine (V.out _ _ _).mono ?_)); rintro e w1 ⟨rfl, hb⟩; have hap' := hap.below hb; clear hap; have hap := hap'; clear hap'; have X1' := X1.below hb; have X2' := X2.below hb; have hB' := Below.of_base hB hb hB.size; have hsz' := Nat.le_trans hsz hb.size; clear X1 X2 hB hsz; have X1 := X1'; have X2 := X2'; have hB := hB'; have hsz := hsz'; clear X1' X2' hB' hsz'; clear hb))
              (try simp only [Exit.inBlock, Exit.then]); refine bodyPost_ret (by simp [results, Try.results11, go_sem, z0, z1, z2, z3, z4, z5]; rfl) rfl ?_
              rw [E.out]
              exact RetC.zero 14 hB
          · have E : Hid (decS b = (⟨b0, b1, b2, b3, d, x⟩, 0)) := hD.out.trans (if_neg e255)
            rw [decide_eq_true e255] at V0
            have V := Lib.hid V0
            clear hD e255 V0
            go_wp2_with (fail)
            go_region_law (first | (go_simp; go_at_call 36; go_must ((with_reducible refine (BD.out _ ((hR2.alloc _).alloc _).drew.drew).mono ?_)); rintro e w1 ⟨hb, A1, d1, rfl, hap0⟩; have ⟨X1, X2, hB, hsz⟩ := decW2 hb; have y0 := X2.cell 0 rfl; have y1 := X2.cell 1 rfl; have y2 := X2.cell 2 rfl; have y3 := X2.cell 3 rfl; have y4 := X2.cell 4 rfl; have y5 := X2.cell 5 rfl; have y6 := fun j => X2.free j; have hap := hap0.base (base' := w.heap.size + 2) (by simp); clear hb hap0))
            all_goals
              have hap' := ap_setCell (ap_setCell (ap_setCell (ap_setCell (ap_setCell (ap_setCell hap (a := ⟨w.heap.size + 1, 0, none⟩) (by simp) (.int .i64 b0)) (a := ⟨w.heap.size + 1, 1, none⟩) (by simp) (.int .i64 b1)) (a := ⟨w.heap.size + 1, 2, none⟩) (by simp) (.int .i64 b2)) (a := ⟨w.heap.size + 1, 3, none⟩) (by simp) (.int .i64 b3)) (a := ⟨w.heap.size + 1, 4, none⟩) (by simp) (.slice A1 d.length d1)) (a := ⟨w.heap.size + 1, 5, none⟩) (by simp) (.int .i64 x)
              clear hap
              have hap := hap'
              clear hap'
              have ⟨X1', X2', hB', hsz'⟩ := set6 X1 X2 hB hsz (.int .i64 b0) (.int .i64 b1) (.int .i64 b2) (.int .i64 b3) (.slice A1 d.length d1) (.int .i64 x); clear X1 X2 hB hsz y0 y1 y2 y3 y4 y5 y6; have X1 := X1'; have X2 := X2'; have hB := hB'; have hsz := hsz'; clear X1' X2' hB' hsz'
              go_wp2_with (first | ((with_reducible refine at_store 2 ?_); refine wpList_store_bx w.heap.size _ _ X1 (by rfl) (by rfl) 6 size_cmd (by rfl) (by rfl) (by rfl) ?_; intro w9 X1' hg; have hB' := hB.grown hg (by omega) (by intro k hk; injection hk with hk; omega); have hap' := ap_grown hap hg (by omega); clear X1 hB hap; have X1 := X1'; have hB := hB'; have hap := hap'; clear X1' hB' hap'; have z0 := X1.cell 0 rfl; have z1 := X1.cell 1 rfl; have z2 := X1.cell 2 rfl; have z3 := X1.cell 3 rfl; have z4 := X1.cell 4 rfl; have z5 := X1.cell 5 rfl) | ((with_reducible refine at_load 4 ?_); refine wpList_load_bx (w.heap.size + 1) _ _ 6 X2 (by rfl) Try.underlying24 size_cmd (by rfl) ?_) | (go_at_call 14; go_must ((with_reducible refine (V.out _ _ _).mono ?_)); rintro e w1 ⟨rfl, hb⟩; have hap' := hap.below hb; clear hap; have hap := hap'; clear hap'; have X1' := X1.below hb; have X2' := X2.below hb; have hB' := Below.of_base hB hb hB.size; have hsz' := Nat.le_trans hsz hb.size; clear X1 X2 hB hsz; have X1 := X1'; have X2 := X2'; have hB := hB'; have hsz := hsz'; clear X1' X2' hB' hsz'; clear hb))
              (try simp only [Exit.inBlock, Exit.then]); refine bodyPost_ret (by simp [results, Try.results11, go_sem, z0, z1, z2, z3, z4, z5]; rfl) rfl ?_
              rw [E.out]
              exact ⟨_, _, rfl, hap.base (by omega), hB⟩
end Go.Proofs.Yteodlgmcniikpaa
