import Derived.Test.YtbfnkddiphjdlaaOctH
namespace Go.Proofs.Ytbfnkddiphjdlaa
open Go.RowKit Go.TravelBase
set_option linter.unusedVariables false
set_option linter.unusedSimpArgs false

set_option maxHeartbeats 400000 in
theorem unhex_any (l : List UInt8) (w : World) (hl : l.length ≤ 281474976710656) :
    Calls Try.prog 20 #[.string (strB l)] w (RetSE 5 (unhexL l).length (bvs (unhexL l)) (unhexE l) w) := by
  have hsz := strB_size l
  by_cases h2 : l.length % 2 = 0
  case neg =>
    obtain ⟨e1, e2⟩ := unhex_odd h2
    rw [e1, e2]
    clear e1 e2
    have h3 : ((l.length : Int) % 2 != 0) = true := by rw [bne_iff_ne]; omega
    go_enter Try.func20, Try.ntmps20
    go_wp2_with (fail)
    go_ret2
    exact RetSE.nil_ _ _ _
  case pos =>
    have h3 : ((l.length : Int) % 2 != 0) = false := by rw [bne_eq_false_iff_eq]; omega
    obtain ⟨j0, hj, hy0, hy1, hy2⟩ := info_parts info_u8
    go_enter Try.func20, Try.ntmps20
    go_wp2_with (fail)
    go_loopw [4, 5] (fun out i wr => ∃ (k p : Nat) (Ao : Option Addr) (co : Nat), p = 2 * k ∧ p ≤ l.length ∧ i = .int .i64 p ∧ out = .slice Ao k co ∧ Ap wr w.heap.size 5 Ao k co (bvs (pairsS l k)) ∧ Below w.heap.size w wr ∧ (∀ j, j < k → pairOk l j = true))
      (fun _ i _ => l.length - (intOf i).toNat)
    case atStart => exact ⟨0, 0, none, 0, rfl, by omega, rfl, rfl, Ap.nil_ _ _ _, Below.refl _ _, fun j h => absurd h (by omega)⟩
    case round =>
      obtain ⟨k, p, Ao, co, hpk, hpl, rfl, rfl, hap, hb, hok⟩ := hrel
      have HOK := Lib.hid hok
      have HPK := Lib.hid hpk
      clear hok
      by_cases hlt : p < l.length
      · have k1 := fun w => run_index_strB (P := Try.prog) w 9 Try.underlying9 .i64 l p hlt
        have k2 : ∀ w, (Instr.index 9 (.string (strB l)) (.int .i64 ((p : Int) + 1))).run Try.prog w = .ok (.int .u8 (atS l (p + 1) : Int)) w :=
          fun w => run_index_strB (P := Try.prog) w 9 Try.underlying9 .i64 l (p + 1) (by omega)
        have hx := atS_lt l p
        have hy := atS_lt l (p + 1)
        have hrx := digS_range (atS l p)
        have hry := digS_range (atS l (p + 1))
        have HP : Hid (pairOk l k = decide (0 ≤ digS (atS l p) ∧ 0 ≤ digS (atS l (p + 1)))) := by rw [hpk]; rfl
        have HV : Hid (pairV l k = UInt8.ofNat (16 * (digS (atS l p)).toNat + (digS (atS l (p + 1))).toNat)) := by rw [hpk]; rfl
        have hd1 := fun w => digit_any (atS l p) w hx
        have hd2 := fun w => digit_any (atS l (p + 1)) w hy
        have D1 := Lib.hid hd1
        have D2 := Lib.hid hd2
        have hl1 : (p : Int) + 1 < ((strB l).size : Int) := by omega
        clear hd1 hd2
        generalize hxx : atS l p = x at *
        generalize hyy : atS l (p + 1) = y at *
        generalize hdx : digS x = d1 at *
        generalize hdy : digS y = d2 at *
        clear hxx hyy hdx hdy hpk
        go_wp2_with (fail)
        go_quiet (first | (go_at_call_of 26 x; exact quiet_l (D1.out _)) | (go_at_call_of 26 y; exact quiet_l (D2.out _)))
        generalize hW : wr.drewN nq = w2
        have hb2 : Below w.heap.size w w2 := hW ▸ below_drewN hb nq
        have hap2 : Ap w2 w.heap.size 5 Ao k co (bvs (pairsS l k)) := hW ▸ hap
        clear hW hap hb k1 k2
        have hkl : k < l.length / 2 := by have := HPK.out; omega
        have hbs := hb2.size
        by_cases hg1 : d1 < 0
        · have hpf : pairOk l k = false := by rw [HP.out]; simp; omega
          obtain ⟨e1, e2⟩ := unhex_bad hkl hpf
          have E1 := Lib.hid e1
          have E2 := Lib.hid e2
          clear e1 e2 hpf
          go_wp2
          go_ret2
          rw [E1.out, E2.out]
          exact RetSE.nil' hb2
        · by_cases hg2 : d2 < 0
          · have hpf : pairOk l k = false := by rw [HP.out]; simp; omega
            obtain ⟨e1, e2⟩ := unhex_bad hkl hpf
            have E1 := Lib.hid e1
            have E2 := Lib.hid e2
            clear e1 e2 hpf
            go_wp2
            go_ret2
            rw [E1.out, E2.out]
            exact RetSE.nil' hb2
          · obtain ⟨a, rfl⟩ := Int.eq_ofNat_of_zero_le (show 0 ≤ d1 by omega)
            obtain ⟨b, rfl⟩ := Int.eq_ofNat_of_zero_le (show 0 ≤ d2 by omega)
            have ha : a < 16 := by omega
            have hb' : b < 16 := by omega
            have hor := or_nibbles a b ha hb'
            have hpo : Hid (pairOk l k = true) := by show pairOk l k = true; rw [HP.out]; simp
            have hu := own_u8 (16 * a + b) (by omega)
            have HU := Lib.hid hu
            clear hu HP D1 D2 hrx hry
            go_wp2_with (at_builtin; refine wpList_append_ap _ rfl _ _ 22 rfl w.heap.size 5 j0 _ 1 Try.underlying22 hj hy0 hy1 hy2 rfl Ao k co _ rfl (hap2.alloc _) (some ⟨w2.heap.size, 0, none⟩) 1 1 _ rfl (Rd.lit _ _ #[_] (by simp [maxLen])) (by intro u hu; simp at hu; subst hu; rfl) (by omega) (by unfold maxLen; omega) (by simp; omega) ?_; intro A2 c2 w3 hap3 hk3 hb3 hne3)
            go_roundw
            case rel =>
              refine ⟨k + 1, p + 2, A2, c2, by have := HPK.out; omega, by omega, by go_num, rfl, ?_, ((hb2.alloc (by omega) _).trans hb3), ?_⟩
              · have e : bvs (pairsS l (k + 1)) = bvs (pairsS l k) ++ [Value.int .u8 ((16 * a + b : Nat) : Int)] := by
                  rw [pairsS_snoc, bvs_append, HU.out, HV.out]; rfl
                rw [e]
                exact hap3
              · intro j hj
                by_cases hjk : j = k
                · subst hjk; exact hpo.out
                · exact HOK.out j (by omega)
            case measure => simp [intOf]; omega
      · have hk2 : k = l.length / 2 := by omega
        obtain ⟨e1, e2⟩ := unhex_good h2 (by rw [← hk2]; exact HOK.out)
        have E1 := Lib.hid e1
        have E2 := Lib.hid e2
        clear e1 e2
        go_wp2_with (fail)
        go_ret2
        rw [E1.out, E2.out, ← hk2, length_pairsS]
        exact ⟨Ao, co, rfl, hap, hb⟩

end Go.Proofs.Ytbfnkddiphjdlaa
