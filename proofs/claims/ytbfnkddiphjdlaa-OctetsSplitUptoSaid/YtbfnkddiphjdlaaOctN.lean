import Derived.Test.YtbfnkddiphjdlaaOctM
namespace Go.Proofs.Ytbfnkddiphjdlaa
open Go.RowKit Go.TravelBase
set_option linter.unusedVariables false
set_option linter.unusedSimpArgs false

theorem flat_pieces (bs : List UInt8) (s : Nat) : ∀ k, (piecesS bs s k).flatten = bs.take (k * s) := by
  intro k
  induction k with
  | zero => simp [piecesS]
  | succ k ih =>
    rw [piecesS_snoc, List.flatten_append, ih, Nat.add_mul, Nat.one_mul, List.take_add]
    simp [pieceS]
theorem flat_split (bs : List UInt8) (size : Int) (h : ¬ size < 1) : (splitL bs size).flatten = bs := by
  unfold splitL
  rw [if_neg h, flat_pieces]
  refine List.take_of_length_le ?_
  unfold countS
  obtain ⟨s, hs⟩ : ∃ s, size.toNat = s := ⟨_, rfl⟩
  rw [hs]
  have h1 : 1 ≤ s := by omega
  have h2 := Nat.div_add_mod (bs.length + s - 1) s
  have h3 := Nat.mod_lt (bs.length + s - 1) h1
  rw [Nat.mul_comm] at h2
  omega
/-- The pieces, one behind the other. -/
def catS (l : List (List UInt8)) : List UInt8 := l.flatten
theorem catS_take_succ (l : List (List UInt8)) (k : Nat) (h : k < l.length) : catS (l.take (k + 1)) = catS (l.take k) ++ l[k] := by
  unfold catS
  rw [List.take_succ_eq_append_getElem h, List.flatten_append]
  simp
theorem catS_len (l : List (List UInt8)) (k : Nat) : (catS (l.take k)).length ≤ (catS l).length := by
  unfold catS
  have h := List.take_append_drop k l
  have h2 := congrArg (fun x : List (List UInt8) => x.flatten.length) h
  simp only [List.flatten_append, List.length_append] at h2
  omega
theorem SlvR.below {w w' : World} {v : Value} {bs : List UInt8} (h : SlvR w v bs) (hb : Below w.heap.size w w') : SlvR w' v bs := by
  obtain ⟨A, c, rfl, hr⟩ := h
  exact ⟨A, c, rfl, hr.below hb⟩

set_option maxHeartbeats 800000 in
theorem walk_OctetsSplit (A : Option Addr) (n c : Nat) (bs : List UInt8) (size : Int) (w : World) (h : Rd w A n c (bvs bs)) (hr : c ≤ 1048576) (hs : -9223372036854775808 ≤ size ∧ size ≤ 9223372036854775807) :
    Calls Try.prog 5 #[.slice A n c, .int .i64 size] w fun e w' => e = .returned (.bool true) ∧ Below w.heap.size w w' := by
  have hc := h.cap
  have hn : n ≤ 1048576 := by omega
  have hl := h.len
  rw [length_bvs] at hl
  obtain ⟨j0, hj, hy0, hy1, hy2⟩ := info_parts info_u8
  have HF : Hid (1 ≤ size → catS (splitL bs size) = bs) := fun h => flat_split bs size (by omega)
  have HE : Hid (splitE size = if size < 1 then 3 else 0) := rfl
  have HL0 : Hid (size < 1 → splitL bs size = []) := fun h => by unfold splitL; rw [if_pos h]
  have hlen : (catS (splitL bs size)).length ≤ n := by
    by_cases h1 : size < 1
    · rw [HL0.out h1]; simp [catS]
    · rw [HF.out (by omega)]; omega
  have S1 := Lib.hid (fun w h => split_any A n c size bs w h hn hs)
  have S2 := Lib.hid (fun w h => rsplit_any A n c size bs w h hn hs)
  generalize hll : splitL bs size = l at *
  generalize hee : splitE size = er at *
  clear hll hee hl
  have hW := Below.refl w.heap.size w
  go_enter Try.func5, Try.ntmps5
  go_wp2_with (first
    | (go_at_call 17; go_must (refine (S1.out _ h).mono ?_); rintro e w1 ⟨A1, c1, vs, rfl, hap, hvs, hb⟩; replace h := h.below hb; replace hW := Below.of_base hW hb hW.size; clear hb)
    | (go_at_call 18; go_must (refine (S2.out _ h).mono ?_); rintro e w2 ⟨A2, c2, us, rfl, hap2, hus, hb⟩; replace h := h.below hb; replace hap := hap.below hb; replace hvs := hvs.imp (fun _ _ x => Slv.below x hb); replace hW := Below.of_base hW hb hW.size; clear hb)
    | (go_at_call 12; go_must (refine (awake1 _).mono ?_); rintro e w3 ⟨rfl, hb⟩; replace h := h.below hb; replace hap := hap.below hb; replace hvs := hvs.imp (fun _ _ x => Slv.below x hb); replace hap2 := hap2.below hb; replace hus := hus.imp (fun _ _ x => Slv.below x hb); replace hW := Below.of_base hW hb hW.size; clear hb)
    | (go_at_call 19; go_must (refine (rsamelists_any _ _ _ _ _ _ vs us l l _ hap.rd hap2.rd (hvs.imp fun _ _ x => x.rd) (hus.imp fun _ _ x => x.rd)).mono ?_); rintro e w4 hq; obtain ⟨rfl, hb⟩ := hq.below; clear hq; replace h := h.below hb; replace hap := hap.below hb; replace hvs := hvs.imp (fun _ _ x => Slv.below x hb); replace hW := Below.of_base hW hb hW.size; clear hb hap2 hus))
  have hrd := hap.rd
  have hrv : All2 (SlvR w4) vs l := hvs.imp fun _ _ x => x.rd
  have hlc := hrd.cap
  have hlm := hrd.max
  clear hap hvs S1 S2
  go_loopw [9, 10] (fun out i wr => ∃ (k : Nat) (Ao : Option Addr) (co : Nat), k ≤ l.length ∧ i = .int .i64 k ∧ out = .slice Ao (catS (l.take k)).length co ∧ Ap wr w4.heap.size 5 Ao (catS (l.take k)).length co (bvs (catS (l.take k))) ∧ Below w4.heap.size w4 wr)
    (fun _ i _ => l.length - (intOf i).toNat)
  case atStart => exact ⟨0, none, 0, Nat.zero_le _, rfl, by simp [catS], by simpa [catS, bvs] using Ap.nil_ _ _ _, Below.refl _ _⟩
  case round =>
    obtain ⟨k, Ao, co, hk, rfl, rfl, hap, hb⟩ := hrel
    by_cases hlt : k < l.length
    · have hr1 := hrd.below hb
      obtain ⟨b, off, rfl, hbl, hcell⟩ := hr1.at_ (by omega)
      obtain ⟨v, hv1, Ai, ci, rfl, hri⟩ := (hrv.imp fun _ _ x => SlvR.below x hb).get hlt
      have hx := hcell k _ hv1
      have FL := Lib.hid (catS_take_succ l k hlt)
      have hfl := catS_len l (k + 1)
      rw [FL.out, List.length_append] at hfl
      have hbs := hb.size
      clear hcell hr1 hv1
      go_wp2_with (at_builtin; go_must (refine wpList_append_ap _ rfl _ _ 22 rfl w4.heap.size 5 j0 _ 1 Try.underlying22 hj hy0 hy1 hy2 rfl Ao _ co _ rfl hap Ai _ ci _ rfl hri (one_bvs _) (by omega) (by unfold maxLen; omega) (by omega) ?_); intro A5 c5 w5 hap5 hk5 hb5 hne5)
      go_roundw
      case rel =>
        refine ⟨k + 1, A5, c5, by omega, by go_num, ?_, ?_, hb.trans hb5⟩
        · rw [FL.out, List.length_append]
        · rw [FL.out, List.length_append, bvs_append]; exact hap5
      case measure => simp [intOf]; omega
    · obtain rfl : k = l.length := by omega
      have e : l.take l.length = l := List.take_length
      rw [e] at hap ⊢
      have hS := h.below hb
      have hfin := Below.of_base hW hb hW.size
      clear e hrd hrv
      by_cases h1 : size < 1
      · have he : er = 3 := by rw [HE.out, if_pos h1]
        rw [he]
        clear he
        go_wp2_with (fail)
        go_ret
        exact ⟨rfl, hfin⟩
      · have he : er = 0 := by rw [HE.out, if_neg h1]
        have hfl := HF.out (by omega)
        rw [he]
        clear he
        rw [hfl] at hap ⊢
        clear hfl
        go_wp2_with (go_at_call 16; go_must (refine (same_any _ _ _ _ _ _ bs bs _ hap.rd hS).mono ?_); rintro e w6 ⟨rfl, rfl⟩)
        go_ret
        exact ⟨by simp, hfin⟩
end Go.Proofs.Ytbfnkddiphjdlaa
