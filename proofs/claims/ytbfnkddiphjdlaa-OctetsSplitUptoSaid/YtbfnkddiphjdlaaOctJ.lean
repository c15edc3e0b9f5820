import Derived.Test.YtbfnkddiphjdlaaOctI
namespace Go.Proofs.Ytbfnkddiphjdlaa
open Go.RowKit Go.TravelBase
set_option linter.unusedVariables false
set_option linter.unusedSimpArgs false

set_option maxHeartbeats 400000 in
theorem runhex_any (l : List UInt8) (w : World) (hl : l.length ≤ 281474976710656) :
    Calls Try.prog 21 #[.string (strB l)] w (RetSE 5 (unhexL l).length (bvs (unhexL l)) (unhexE l) w) := by
  have hsz := strB_size l
  by_cases h2 : l.length % 2 = 0
  case neg =>
    obtain ⟨e1, e2⟩ := unhex_odd h2
    rw [e1, e2]
    clear e1 e2
    have h3 : ((l.length : Int) % 2 != 0) = true := by rw [bne_iff_ne]; omega
    go_enter Try.func21, Try.ntmps21
    go_wp2_with (fail)
    go_ret2
    exact RetSE.nil_ _ _ _
  case pos =>
    have h3 : ((l.length : Int) % 2 != 0) = false := by rw [bne_eq_false_iff_eq]; omega
    obtain ⟨j0, hj, hy0, hy1, hy2⟩ := info_parts info_u8
    go_enter Try.func21, Try.ntmps21
    go_wp2_with (fail)
    go_loopw [4, 5] (fun out i wr => ∃ (k p : Nat) (Ao : Option Addr) (co : Nat), p = 2 * k ∧ p ≤ l.length ∧ i = .int .i64 p ∧ out = .slice Ao k co ∧ Ap wr w.heap.size 5 Ao k co (bvs (pairsS l k)) ∧ Below w.heap.size w wr ∧ (∀ j, j < k → pairOk l j = true))
      (fun _ i _ => l.length - (intOf i).toNat)
    case atStart => exact ⟨0, 0, none, 0, rfl, by omega, rfl, rfl, Ap.nil_ _ _ _, Below.refl _ _, fun j h => absurd h (by omega)⟩
    case round =>
      obtain ⟨k, p, Ao, co, hpk, hpl, rfl, rfl, hap, hb, hok⟩ := hrel
      have HOK := Lib.hid hok
      have HPK := Lib.hid hpk
      clear hok
      by_cases hlt : p < l.length
      · have k1 := fun w => run_index_strB (P := Try.prog) w 9 Try.underlying9 .i64 l p hlt
        have k2 : ∀ w, (Instr.index 9 (.string (strB l)) (.int .i64 ((p : Int) + 1))).run Try.prog w = .ok (.int .u8 (atS l (p + 1) : Int)) w :=
          fun w => run_index_strB (P := Try.prog) w 9 Try.underlying9 .i64 l (p + 1) (by omega)
        have hx := atS_lt l p
        have hy := atS_lt l (p + 1)
        have hrx := digS_range (atS l p)
        have hry := digS_range (atS l (p + 1))
        have HP : Hid (pairOk l k = decide (0 ≤ digS (atS l p) ∧ 0 ≤ digS (atS l (p + 1)))) := by rw [hpk]; rfl
        have HV : Hid (pairV l k = UInt8.ofNat (16 * (digS (atS l p)).toNat + (digS (atS l (p + 1))).toNat)) := by rw [hpk]; rfl
        have hd1 := fun w => rdigit_any (atS l p) w hx
        have hd2 := fun w => rdigit_any (atS l (p + 1)) w hy
        have D1 := Lib.hid hd1
        have D2 := Lib.hid hd2
        have hl1 : (p : Int) + 1 < ((strB l).size : Int) := by omega
        clear hd1 hd2
        generalize hxx : atS l p = x at *
        generalize hyy : atS l (p + 1) = y at *
        generalize hdx : digS x = d1 at *
        generalize hdy : digS y = d2 at *
        clear hxx hyy hdx hdy hpk
        go_wp2_with (fail)
        go_quiet (first | (go_at_call_of 27 x; exact quiet_l (D1.out _)) | (go_at_call_of 27 y; exact quiet_l (D2.out _)))
        generalize hW : wr.drewN nq = w2
        have hb2 : Below w.heap.size w w2 := hW ▸ below_drewN hb nq
        have hap2 : Ap w2 w.heap.size 5 Ao k co (bvs (pairsS l k)) := hW ▸ hap
        clear hW hap hb k1 k2
        have hkl : k < l.length / 2 := by have := HPK.out; omega
        have hbs := hb2.size
        by_cases hg1 : d1 < 0
        · have hpf : pairOk l k = false := by rw [HP.out]; simp; omega
          obtain ⟨e1, e2⟩ := unhex_bad hkl hpf
          have E1 := Lib.hid e1
          have E2 := Lib.hid e2
          clear e1 e2 hpf
          go_wp2
          go_ret2
          rw [E1.out, E2.out]
          exact RetSE.nil' hb2
        · by_cases hg2 : d2 < 0
          · have hpf : pairOk l k = false := by rw [HP.out]; simp; omega
            obtain ⟨e1, e2⟩ := unhex_bad hkl hpf
            have E1 := Lib.hid e1
            have E2 := Lib.hid e2
            clear e1 e2 hpf
            go_wp2
            go_ret2
            rw [E1.out, E2.out]
            exact RetSE.nil' hb2
          · obtain ⟨a, rfl⟩ := Int.eq_ofNat_of_zero_le (show 0 ≤ d1 by omega)
            obtain ⟨b, rfl⟩ := Int.eq_ofNat_of_zero_le (show 0 ≤ d2 by omega)
            have ha : a < 16 := by omega
            have hb' : b < 16 := by omega
            have hpo : Hid (pairOk l k = true) := by show pairOk l k = true; rw [HP.out]; simp
            have hu := own_u8 (16 * a + b) (by omega)
            have HU := Lib.hid hu
            clear hu HP D1 D2 hrx hry
            go_wp2_with (at_builtin; refine wpList_append_ap _ rfl _ _ 22 rfl w.heap.size 5 j0 _ 1 Try.underlying22 hj hy0 hy1 hy2 rfl Ao k co _ rfl (hap2.alloc _) (some ⟨w2.heap.size, 0, none⟩) 1 1 _ rfl (Rd.lit _ _ #[_] (by simp [maxLen])) (by intro u hu; simp at hu; subst hu; rfl) (by omega) (by unfold maxLen; omega) (by simp; omega) ?_; intro A2 c2 w3 hap3 hk3 hb3 hne3)
            go_roundw
            case rel =>
              refine ⟨k + 1, p + 2, A2, c2, by have := HPK.out; omega, by omega, by go_num, rfl, ?_, ((hb2.alloc (by omega) _).trans hb3), ?_⟩
              · have e : bvs (pairsS l (k + 1)) = bvs (pairsS l k) ++ [Value.int .u8 (16 * (a : Int) + b)] := by
                  rw [show (16 * (a : Int) + b) = ((16 * a + b : Nat) : Int) from by omega, pairsS_snoc, bvs_append, HU.out, HV.out]; rfl
                rw [e]
                exact hap3
              · intro j hj
                by_cases hjk : j = k
                · subst hjk; exact hpo.out
                · exact HOK.out j (by omega)
            case measure => simp [intOf]; omega
      · have hk2 : k = l.length / 2 := by omega
        obtain ⟨e1, e2⟩ := unhex_good h2 (by rw [← hk2]; exact HOK.out)
        have E1 := Lib.hid e1
        have E2 := Lib.hid e2
        clear e1 e2
        go_wp2_with (fail)
        go_ret2
        rw [E1.out, E2.out, ← hk2, length_pairsS]
        exact ⟨Ao, co, rfl, hap, hb⟩

set_option maxHeartbeats 400000 in
/-- Lists of bytes are compared. -/
theorem rsamelists_any (A A' : Option Addr) (n c m c' : Nat) (vs us : List Value) (xs ys : List (List UInt8)) (w : World) (h : Rd w A n c vs) (h' : Rd w A' m c' us)
    (hv : All2 (SlvR w) vs xs) (hu : All2 (SlvR w) us ys) :
    Calls Try.prog 19 #[.slice A n c, .slice A' m c'] w (RetQ (.bool (decide (xs = ys))) w) := by
  have hn := h.len
  have hm := h'.len
  have hn1 := hv.1
  have hm1 := hu.1
  have hc := h.cap
  have hx := h.max
  have hc' := h'.cap
  have hx' := h'.max
  by_cases hnm : n = m
  · obtain rfl : m = n := hnm.symm
    go_enter Try.func19, Try.ntmps19
    go_wp2_with (fail)
    go_loopw [5] (fun i wr => ∃ k : Nat, k ≤ m ∧ i = .int .i64 k ∧ xs.take k = ys.take k ∧ ∃ q, wr = w.drewN q) (fun i _ => m - (intOf i).toNat)
    case atStart => exact ⟨0, Nat.zero_le _, rfl, rfl, 0, rfl⟩
    case round =>
      obtain ⟨k, hk, rfl, htk, q, hwr⟩ := hrel
      have HT := Lib.hid htk
      clear htk
      by_cases hlt : k < m
      · obtain ⟨b, off, rfl, hb, hcell⟩ := h.at_ (by omega)
        obtain ⟨b', off', rfl, hb', hcell'⟩ := h'.at_ (by omega)
        obtain ⟨v, hv1, A1, c1, rfl, hr1⟩ := hv.get (j := k) (by omega)
        obtain ⟨u, hu1, A2, c2, rfl, hr2⟩ := hu.get (j := k) (by omega)
        have hx := hcell k _ hv1
        have hy := hcell' k _ hu1
        have hr3 : Rd wr A1 xs[k].length c1 (bvs xs[k]) := by rw [hwr]; exact hr1.drewN q
        have hr4 : Rd wr A2 ys[k].length c2 (bvs ys[k]) := by rw [hwr]; exact hr2.drewN q
        have hx2 : wr.cell? ⟨b, off + k, none⟩ = some (Value.slice A1 xs[k].length c1) := by rw [hwr]; exact hx
        have hy2 : wr.cell? ⟨b', off' + k, none⟩ = some (Value.slice A2 ys[k].length c2) := by rw [hwr]; exact hy
        have HW := Lib.hid hwr
        clear hcell hcell' h h' hx hy hv1 hu1 hr1 hr2 hv hu hwr
        have hi0 : (0 : Int) ≤ (k : Int) := by omega
        have hi1 : (k : Int) < (m : Int) := by omega
        have SM := Lib.hid (fun nq => rsame_any A1 A2 _ c1 _ c2 _ _ (wr.drewN nq) (hr3.drewN nq) (hr4.drewN nq))
        clear hr3 hr4
        have hlx : (xs[k]'(by omega)).length = (xs[k]'(by omega)).length := rfl
        generalize hxk : xs[k]'(by omega) = x at *
        generalize hyk : ys[k]'(by omega) = y at *
        have HXK := Lib.hid hxk
        have HYK := Lib.hid hyk
        clear hxk hyk hlx
        by_cases he : x = y
        · have hd : decide (x = y) = true := by simp [he]
          rw [hd] at SM
          have HE := Lib.hid he
          clear hd he
          go_wp2_with (fail)
          go_quiet ((go_at_call 13; exact RetQ.quiet (SM.out _)))
          go_wp2_with (fail)
          go_roundw
          case rel => exact ⟨k + 1, by omega, by go_num, take_eq_step HT.out (by omega) (by omega) (by rw [HXK.out, HYK.out, HE.out]), q + nq, by rw [HW.out]; exact World.drewN_drewN _ _ _⟩
          case measure => simp [intOf]; omega
        · have hd : decide (x = y) = false := by simp [he]
          rw [hd] at SM
          clear hd
          go_wp2_with (fail)
          go_quiet ((go_at_call 13; exact RetQ.quiet (SM.out _)))
          go_wp2_with (fail)
          go_ret
          have : xs ≠ ys := ne_of_get (k := k) (by omega) (by omega) (by rw [HXK.out, HYK.out]; exact he)
          exact ⟨by simp [this], q + nq, by rw [HW.out]; exact World.drewN_drewN _ _ _⟩
      · obtain rfl : k = m := by omega
        have HW := Lib.hid hwr
        clear hwr
        go_wp2_with (fail)
        go_ret
        have e : xs = ys := by
          have := HT.out
          rwa [List.take_of_length_le (by omega), List.take_of_length_le (by omega)] at this
        exact ⟨by simp [e], q, HW.out⟩
  · have hne : xs ≠ ys := by rintro rfl; omega
    have g : ((n : Int) != (m : Int)) = true := by rw [bne_iff_ne]; omega
    go_enter Try.func19, Try.ntmps19
    go_wp2_with (fail)
    go_ret
    exact ⟨by simp [hne], 0, rfl⟩

end Go.Proofs.Ytbfnkddiphjdlaa
