import Derived.Handy
import Derived.Test.YteodlgmcniikpaaCmdF
namespace Go.Proofs.Yteodlgmcniikpaa
open Go.RowKit Go.TravelBase
set_option linter.unusedVariables false
set_option linter.unusedSimpArgs false

theorem sclone_any (A : Option Addr) (n c : Nat) (xs : List UInt8) (w : World) (h : Rd w A n c (bvs xs)) (hr : n ≤ 140737488355328) :
    Calls Try.prog 42 #[.slice A n c] w (RetS 5 n (bvs xs) w) := by
  have hm := h.max
  obtain ⟨i0, hi, hz0, hz1, hz2⟩ := info_parts info_u8
  cases A with
  | none =>
    obtain ⟨rfl, rfl, h0⟩ := h.none_
    rw [h0]
    have k1 := fun (w : World) (a : Option Addr) (n c : Nat) => Lib.run_eql_slice_nil (P := Try.prog) w 22 5 a n c 0 0 Try.underlying22
    go_enter Try.func42, Try.ntmps42
    go_wp2
    go_ret
    exact RetS.ap (Ap.nil_ _ _ _) (Below.refl _ _)
  | some ad =>
    have k1 := fun (w : World) (a : Option Addr) (n c : Nat) => Lib.run_eql_slice_nil (P := Try.prog) w 22 5 a n c 0 0 Try.underlying22
    go_enter Try.func42, Try.ntmps42
    go_wp2_with (at_builtin; refine wpList_append_ap _ rfl _ _ 22 rfl w.heap.size 5 i0 _ 1 Try.underlying22 hi hz0 hz1 hz2 rfl _ 0 0 [] rfl (Ap.empty _ _ _ _) (some ad) n c (bvs xs) rfl (h.alloc _) (one_bvs _) (by omega) (by unfold maxLen; omega) (by simp) ?_; intro A2 c2 w2 hap hgr hb hne)
    go_ret
    simp only [Nat.zero_add, List.nil_append] at hap ⊢
    exact RetS.ap hap (((Below.refl _ _).alloc (Nat.le_refl _) _).trans hb)

/-! ### The body of a command that is read -/
/-- What lies behind the head, with numbers of s bytes: the data and the expected length. -/
def bodyS (r : List UInt8) (s : Nat) : Option (List UInt8 × Int) :=
  if r.length = s then some ([], (expS r : Int)) else if r.length < s then none else
    if numS (r.take s) = 0 ∨ 4096 < numS (r.take s) ∨ ((r.drop s).length ≠ numS (r.take s) ∧ (r.drop s).length ≠ numS (r.take s) + s) then none else
      some ((r.drop s).take (numS (r.take s)), if numS (r.take s) < (r.drop s).length then (expS ((r.drop s).drop (numS (r.take s))) : Int) else -1)
/-- A command, handed back with whether it could be read. -/
def RetB (cl ins p1 p2 : Int) (o : Option (List UInt8 × Int)) (w : World) (e : Ending) (w' : World) : Prop :=
  Below w.heap.size w w' ∧ match o with
    | none => e = .returned (.tuple #[.agg #[.int .i64 cl, .int .i64 ins, .int .i64 p1, .int .i64 p2, .slice none 0 0, .int .i64 (-1)], .bool false])
    | some (d, x) => ∃ A c, e = .returned (.tuple #[.agg #[.int .i64 cl, .int .i64 ins, .int .i64 p1, .int .i64 p2, .slice A d.length c, .int .i64 x], .bool true]) ∧ Ap w' w.heap.size 5 A d.length c (bvs d)

theorem ap_setCell {w : World} {base : Nat} {e : TypeId} {A : Option Addr} {n c : Nat} {xs : List Value} (h : Ap w base e A n c xs) {a : Addr} (ha : a.block < base) (u : Value) : Ap (w.setCell a u) base e A n c xs := by
  rcases h with h | h
  · exact .inl (ownsRow_setCell_below h ha u)
  · exact .inr h
theorem twoBox {w w' : World} {cs1 cs2 : Array Value} {T1 T2 : TypeId} (h : Below ((w.alloc (.cells cs1 T1)).alloc (.cells cs2 T2)).heap.size ((w.alloc (.cells cs1 T1)).alloc (.cells cs2 T2)) w') :
    (∀ j u, cs1[j]? = some u → w'.cell? ⟨w.heap.size, j, none⟩ = some u) ∧ (∀ j u, cs2[j]? = some u → w'.cell? ⟨w.heap.size + 1, j, none⟩ = some u) ∧
      (∀ j, w'.frozen? ⟨w.heap.size, j, none⟩ = false) ∧ (∀ j, w'.frozen? ⟨w.heap.size + 1, j, none⟩ = false) ∧ w.heap.size + 2 ≤ w'.heap.size := by
  have hs : ((w.alloc (.cells cs1 T1)).alloc (.cells cs2 T2)).heap.size = w.heap.size + 2 := by simp
  have hz := h.size
  rw [hs] at h hz
  have g1 : w'.heap[w.heap.size]? = some (.cells cs1 T1) := by rw [h.block _ (by omega)]; show ((w.heap.push _).push _)[_]? = _; simp [Array.getElem?_push]
  have g2 : w'.heap[w.heap.size + 1]? = some (.cells cs2 T2) := by
    rw [h.block _ (by omega)]
    show ((w.heap.push (.cells cs1 T1)).push (.cells cs2 T2))[w.heap.size + 1]? = _
    have e : (w.heap.push (.cells cs1 T1)).size = w.heap.size + 1 := by simp
    rw [← e]
    exact Array.getElem?_push_size
  refine ⟨fun j u hu => ?_, fun j u hu => ?_, fun j => ?_, fun j => ?_, hz⟩
  · simp [World.cell?, g1, hu]
  · simp [World.cell?, g2, hu]
  · simp [World.frozen?, g1]
  · simp [World.frozen?, g2]

set_option maxHeartbeats 4000000 in
set_option maxRecDepth 100000 in
theorem body_any (cl ins p1 p2 : Int) (A : Option Addr) (n c : Nat) (r : List UInt8) (s : Nat) (hs : s = 1 ∨ s = 2) (w : World) (h : Rd w A n c (bvs r)) :
    Calls Try.prog 36 #[.agg #[.int .i64 cl, .int .i64 ins, .int .i64 p1, .int .i64 p2, .slice none 0 0, .int .i64 (-1)], .slice A n c, .int .i64 (s : Int)] w (RetB cl ins p1 p2 (bodyS r s) w) := by
  have hn := h.len
  rw [length_bvs] at hn
  have hc := h.cap
  have hcm := h.max
  rcases Nat.lt_trichotomy n s with h1 | h1 | h1
  · have e : bodyS r s = none := by unfold bodyS; rw [if_neg (by omega), if_pos (by omega)]
    rw [e]
    clear e
    have b1 : ((n : Int) == (s : Int)) = false := by simp; omega
    go_enter Try.func36, Try.ntmps36
    go_wp2_with (fail)
    go_returns
    exact ⟨((Below.refl _ _).alloc (Nat.le_refl _) _).alloc (by simp) _, rfl⟩
  · subst h1
    have e : bodyS r n = some ([], (expS r : Int)) := by unfold bodyS; rw [if_pos hn]
    rw [e]
    clear e
    have hE := Lib.hid (expected_any n hs A c r)
    go_enter Try.func36, Try.ntmps36
    go_wp2_with (go_at_call 51; go_must (refine (hE.out _ ((h.alloc _).alloc _)).mono ?_); rintro e w1 ⟨rfl, rfl⟩)
    go_returns
    exact ⟨((Below.refl _ _).alloc (Nat.le_refl _) _).alloc (by simp) _, _, _, rfl, Ap.empty _ _ _ _⟩
  · have hN := fun w => number_any A s c (r.take s) w
    obtain ⟨e1, e2⟩ := numV_small (bs := r.take s) (by rw [List.length_take]; omega)
    rw [e1, e2] at hN
    have HN := Lib.hid hN
    clear hN e1 e2
    have hlt := numS_lt (r.take s)
    have hl : (r.take s).length = s := by rw [List.length_take]; omega
    have hx : numS (r.take s) < 65536 := by
      rw [hl] at hlt
      rcases hs with rfl | rfl
      · have : (256 : Nat) ^ 1 = 256 := by decide
        omega
      · have : (256 : Nat) ^ 2 = 65536 := by decide
        omega
    have hB : bodyS r s = if numS (r.take s) = 0 ∨ 4096 < numS (r.take s) ∨ (n - s ≠ numS (r.take s) ∧ n - s ≠ numS (r.take s) + s) then none else
      some ((r.drop s).take (numS (r.take s)), if numS (r.take s) < n - s then (expS ((r.drop s).drop (numS (r.take s))) : Int) else -1) := by
      unfold bodyS
      rw [if_neg (by omega), if_neg (by omega), List.length_drop, hn]
    have HB := Lib.hid hB
    clear hB hlt hl
    have hT : Rd w A s c (bvs (r.take s)) := h.takeB (by omega)
    generalize numS (r.take s) = x at HN HB hx
    have b0 : ((n : Int) == (s : Int)) = false := by simp; omega
    by_cases bad : x = 0 ∨ 4096 < x ∨ (n - s ≠ x ∧ n - s ≠ x + s)
    · have e : bodyS r s = none := by rw [HB.out, if_pos bad]
      rw [e]
      clear e HB
      have fin : ∀ cs1 T1 cs2 T2, Below w.heap.size w ((w.alloc (.cells cs1 T1)).alloc (.cells cs2 T2)) := fun _ _ _ _ => ((Below.refl _ _).alloc (Nat.le_refl _) _).alloc (by simp) _
      by_cases z0 : x = 0
      · subst z0
        go_enter Try.func36, Try.ntmps36
        go_wp2_with (go_at_call 43; go_must (refine (HN.out _ ((hT.alloc _).alloc _)).mono ?_); rintro e w1 ⟨rfl, rfl⟩)
        go_returns
        exact ⟨fin _ _ _ _, rfl⟩
      · have b1 : ((x : Int) == 0) = false := by simp; omega
        by_cases z4 : 4096 < x
        · go_enter Try.func36, Try.ntmps36
          go_wp2_with (go_at_call 43; go_must (refine (HN.out _ ((hT.alloc _).alloc _)).mono ?_); rintro e w1 ⟨rfl, rfl⟩)
          go_returns
          exact ⟨fin _ _ _ _, rfl⟩
        · have b2 : (((n - s : Nat) : Int) != (x : Int)) = true := by simp; omega
          have b3 : (((n - s : Nat) : Int) != (x : Int) + (s : Int)) = true := by simp; omega
          go_enter Try.func36, Try.ntmps36
          go_wp2_with (go_at_call 43; go_must (refine (HN.out _ ((hT.alloc _).alloc _)).mono ?_); rintro e w1 ⟨rfl, rfl⟩)
          go_returns
          exact ⟨fin _ _ _ _, rfl⟩
    · have g0 : 1 ≤ x := by omega
      have g4 : x ≤ 4096 := by omega
      have b1 : ((x : Int) == 0) = false := by simp; omega
      have hD : Rd w (A.map (fun x => x.add s)) (n - s) (c - s) (bvs (r.drop s)) := by
        have hd := h.dropB (k := s) (by omega)
        unfold cutA at hd
        rwa [if_neg (by omega)] at hd
      by_cases k : n - s = x
      · have e : bodyS r s = some ((r.drop s).take x, -1) := by rw [HB.out, if_neg bad, if_neg (by omega)]
        rw [e]
        clear e HB bad
        have b2 : (((n - s : Nat) : Int) != (x : Int)) = false := by simp; omega
        have hC := fun w => sclone_any (A.map (fun x => x.add s)) x (c - s) ((r.drop s).take x) w
        have HC := Lib.hid hC
        clear hC
        have hP : Rd w (A.map (fun x => x.add s)) x (c - s) (bvs ((r.drop s).take x)) := hD.takeB (by omega)
        go_enter Try.func36, Try.ntmps36
        go_wp2_with (first
          | (go_at_call 43; go_must (refine (HN.out _ ((hT.alloc _).alloc _)).mono ?_); rintro e w1 ⟨rfl, rfl⟩)
          | (go_at_call 42; go_must (refine (HC.out _ ((hP.alloc _).alloc _) (by omega)).mono ?_); rintro e w1 ⟨A1, c1, rfl, hap, hW⟩; have ⟨d1, d2, f1, f2, hsz⟩ := twoBox hW; have v0 := d1 0 _ rfl; have v1 := d1 1 _ rfl; have v2 := d1 2 _ rfl; have v3 := d1 3 _ rfl; have v4 := d1 4 _ rfl; have v5 := d1 5 _ rfl; have u0 := d2 0 _ rfl; have u1 := d2 1 _ rfl; have u2 := d2 2 _ rfl; have u3 := d2 3 _ rfl; have u4 := d2 4 _ rfl; have u5 := d2 5 _ rfl; clear d1 d2))
        (try simp only [Exit.inBlock, Exit.then])
        refine bodyPost_ret (by simp [results, Try.results36, go_sem, v0, v1, v2, v3, v4, v5, u0, u1, u2, u3, u4, u5]; rfl) rfl ?_
        have hl : ((r.drop s).take x).length = x := by rw [List.length_take, List.length_drop]; omega
        have hW0 : Below w.heap.size w w1 := by
          refine Below.of_base ?_ hW (by simp; try omega)
          exact ((Below.refl _ _).alloc (Nat.le_refl _) _).alloc (by simp) _
        have hap1 := hap.base (base' := w.heap.size + 2) (by simp)
        refine ⟨((((((hW0.setCell (by simp) _).setCell (by simp) _).setCell (by simp) _).setCell (by simp) _).setCell (by simp) _).setCell (by simp) _).setCell (by simp) _, A1, c1, by rw [hl], ?_⟩
        rw [hl]
        refine Ap.base (base := w.heap.size + 2) ?_ (by omega)
        exact ap_setCell (ap_setCell (ap_setCell (ap_setCell (ap_setCell (ap_setCell (ap_setCell hap1 (by simp; try omega) _) (by simp; try omega) _) (by simp; try omega) _) (by simp; try omega) _) (by simp; try omega) _) (by simp; try omega) _) (by simp; try omega) _
      · have k3 : n - s = x + s := by omega
        have e : bodyS r s = some ((r.drop s).take x, (expS ((r.drop s).drop x) : Int)) := by rw [HB.out, if_neg bad, if_pos (by omega)]
        rw [e]
        clear e HB bad
        have b2 : (((n - s : Nat) : Int) != (x : Int)) = true := by simp; omega
        have b3 : (((n - s : Nat) : Int) != (x : Int) + (s : Int)) = false := by simp; omega
        have hC := fun w => sclone_any (A.map (fun x => x.add s)) x (c - s) ((r.drop s).take x) w
        have HC := Lib.hid hC
        clear hC
        have hP : Rd w (A.map (fun x => x.add s)) x (c - s) (bvs ((r.drop s).take x)) := hD.takeB (by omega)
        have hQ : Rd w ((A.map (fun x => x.add s)).map (fun y => y.add x)) (n - s - x) (c - s - x) (bvs ((r.drop s).drop x)) := by
          have hd := hD.dropB (k := x) (by omega)
          unfold cutA at hd
          rwa [if_neg (by omega)] at hd
        rw [Option.map_map, show n - s - x = s by omega] at hQ
        have hE := fun w => expected_any s hs (A.map ((fun y => y.add x) ∘ fun x => x.add s)) (c - s - x) ((r.drop s).drop x) w
        have HE := Lib.hid hE
        clear hE
        go_enter Try.func36, Try.ntmps36
        go_wp2_with (first
          | (go_at_call 43; go_must (refine (HN.out _ ((hT.alloc _).alloc _)).mono ?_); rintro e w1 ⟨rfl, rfl⟩)
          | (go_at_call 42; go_must (refine (HC.out _ ((hP.alloc _).alloc _) (by omega)).mono ?_); rintro e w1 ⟨A1, c1, rfl, hap, hW⟩; have ⟨d1, d2, f1, f2, hsz⟩ := twoBox hW; have v0 := d1 0 _ rfl; have v1 := d1 1 _ rfl; have v2 := d1 2 _ rfl; have v3 := d1 3 _ rfl; have v4 := d1 4 _ rfl; have v5 := d1 5 _ rfl; have u0 := d2 0 _ rfl; have u1 := d2 1 _ rfl; have u2 := d2 2 _ rfl; have u3 := d2 3 _ rfl; have u4 := d2 4 _ rfl; have u5 := d2 5 _ rfl; clear d1 d2)
          | (go_at_call 51; have hW0 : Below w.heap.size w w1 := Below.of_base (((Below.refl _ _).alloc (Nat.le_refl _) _).alloc (by simp) _) hW (by simp; try omega); go_must (refine (HE.out _ (hQ.below (hW0.setCell (by simp) _))).mono ?_); rintro e w2 ⟨rfl, rfl⟩))
        (try simp only [Exit.inBlock, Exit.then])
        refine bodyPost_ret (by simp [results, Try.results36, go_sem, v0, v1, v2, v3, v4, v5, u0, u1, u2, u3, u4, u5]; rfl) rfl ?_
        have hl : ((r.drop s).take x).length = x := by rw [List.length_take, List.length_drop]; omega
        have hap1 := hap.base (base' := w.heap.size + 2) (by simp)
        refine ⟨(((((((hW0.setCell (by simp) _).setCell (by simp) _).setCell (by simp) _).setCell (by simp) _).setCell (by simp) _).setCell (by simp) _).setCell (by simp) _).setCell (by simp) _, A1, c1, by rw [hl]; simp, ?_⟩
        rw [hl]
        refine Ap.base (base := w.heap.size + 2) ?_ (by omega)
        exact ap_setCell (ap_setCell (ap_setCell (ap_setCell (ap_setCell (ap_setCell (ap_setCell (ap_setCell hap1 (by simp; try omega) _) (by simp; try omega) _) (by simp; try omega) _) (by simp; try omega) _) (by simp; try omega) _) (by simp; try omega) _) (by simp; try omega) _) (by simp; try omega) _
end Go.Proofs.Yteodlgmcniikpaa
