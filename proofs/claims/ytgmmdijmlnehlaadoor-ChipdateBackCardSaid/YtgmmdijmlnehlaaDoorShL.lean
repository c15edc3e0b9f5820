import Derived.Test.YtgmmdijmlnehlaaDoorShH
namespace Go.Proofs.YtgmmdijmlnehlaaDoor
open Go.RowKit Go.TravelBase Go.TravelAbs
set_option linter.unusedVariables false
set_option linter.unusedSimpArgs false



















/-! ### Trusts that are made of numbers -/
theorem pt_mk {h : List UInt8} {bs : List UInt8} {r f t : Int} (hn : nameB h = true) (hr : 0 ≤ r ∧ r ≤ 65535) (hd : 0 ≤ f ∧ f ≤ t ∧ t ≤ 73048) : pointE ⟨h, hoP bs, r, f, t⟩ = 0 := by
  unfold pointE
  simp only [hoP_elt, hn]
  rw [if_neg (by decide), if_neg (by decide), if_neg (by omega), if_neg]
  unfold daysB
  simp only [Bool.and_eq_false_iff, decide_eq_false_iff_not]
  omega
theorem trS_ok (L : AV) (z : Int) : validE (trS L z) = 0 := by
  have r0 := nx_rng L z 40 (by omega)
  have r1 := nx_rng L (trZ L z 1) 15 (by omega)
  have r2 := nx_rng L (trZ L z 2) 100 (by omega)
  have r4 := nx_rng L (trZ L z 4) 16 (by omega)
  have r5 := nx_rng L (trZ L z 5) 100 (by omega)
  have p1 : pointE ⟨R1, hoP R1, 1 + nxI L (trZ L z 1) 15, 0, 40 + nxI L (trZ L z 2) 100⟩ = 0 := pt_mk (by decide) (by omega) (by omega)
  have p2 : pointE ⟨R2, hoP R2, nxI L (trZ L z 4) 16, 10, 60 + nxI L (trZ L z 5) 100⟩ = 0 := pt_mk (by decide) (by omega) (by omega)
  have hd : dayB (30 + nxI L z 40) = true := by
    unfold dayB
    simp only [Bool.and_eq_true, decide_eq_true_eq]
    omega
  unfold trS validE
  by_cases h : nxI L (trZ L z 3) 3 = 1
  · rw [if_pos h]
    simp only [firE, p1, p2, hd]
    rfl
  · rw [if_neg h]
    simp only [firE, p1, hd]
    rfl
theorem trS_enc (L : AV) (z : Int) : okS (encS (trS L z)) (trS L z) ∧ (encS (trS L z)).length ≤ 1000 := by
  refine ⟨⟨trS_ok L z, rfl⟩, ?_⟩
  have h : encS (trS L z) = acE (trS L z).now (trS L z).pts (trS L z).pts.length := if_pos (trS_ok L z)
  have h2 := acE_len (now := (trS L z).now) (valid_ok (trS_ok L z)).2.1 (Nat.le_refl _)
  have h3 := (valid_ok (trS_ok L z)).1.2
  rw [h]
  omega
/-! ### What learning keeps -/
theorem ofInt_toNat (y : Int) : (BitVec.ofInt 64 y).toNat = (y % 18446744073709551616).toNat := by
  rw [BitVec.toNat_ofInt]
  rfl
theorem ofInt_wrap (v : BitVec 64) : BitVec.ofInt 64 (IntKind.i64.wrap (v.toNat : Int)) = v := by
  apply BitVec.eq_of_toNat_eq
  have := v.isLt
  rw [ofInt_toNat, IntKind.wrap_i64]
  omega
theorem andNot_and (a b : Int) : bits .andNot .i64 (bits .and .i64 a b) b = 0 := by
  show IntKind.i64.wrap ((BitVec.ofInt 64 (IntKind.i64.wrap ((BitVec.ofInt 64 a &&& BitVec.ofInt 64 b).toNat : Int)) &&& ~~~ BitVec.ofInt 64 b).toNat : Int) = _
  rw [ofInt_wrap, BitVec.and_assoc, BitVec.and_not_self]
  have e : BitVec.ofInt 64 a &&& 0#64 = 0#64 := BitVec.and_zero
  exact congrArg (fun v : BitVec 64 => IntKind.i64.wrap (v.toNat : Int)) e
theorem and_rng (a b : Int) (h : 0 ≤ a ∧ a ≤ 65535) : 0 ≤ bits .and .i64 a b ∧ bits .and .i64 a b ≤ 65535 := by
  have e : bits .and .i64 a b = IntKind.i64.wrap ((BitVec.ofInt 64 a &&& BitVec.ofInt 64 b).toNat : Int) := rfl
  have h1 : (BitVec.ofInt 64 a &&& BitVec.ofInt 64 b).toNat ≤ (BitVec.ofInt 64 a).toNat := by
    rw [BitVec.toNat_and]
    exact Nat.and_le_left
  have h2 := ofInt_toNat a
  rw [e, IntKind.wrap_i64]
  omega
structure CkOK (c : Ct) : Prop where
  nm : nameB c.hold = true
  el : eltB c.key = true
  rt : 0 ≤ c.rt ∧ c.rt ≤ 65535
  dy : daysB c.fr c.til = true
theorem ck_ok {c : Ct} (h : checkE c = 0) : CkOK c := by
  obtain ⟨h1, h2, _, h4, h5⟩ := check_ok h
  refine ⟨h1.2, h2, h4, ?_⟩
  unfold daysB
  simp only [Bool.and_eq_true, decide_eq_true_eq]
  omega
theorem newP_ok {b : Cn} {c : Ct} (h : CkOK c) : pointE (newP b c) = 0 := by
  have h1 := and_rng c.rt b.rt h.rt
  unfold pointE newP
  simp only [h.nm, h.el, h.dy]
  rw [if_neg (by decide), if_neg (by decide), if_neg (by omega), if_neg (by decide)]
theorem now_ge (t : Sto) (b : Cn) (c : Ct) : t.now ≤ nowI t b c := by
  unfold nowI
  split <;> omega
theorem now_rng {t : Sto} {b : Cn} {c : Ct} (h : CkOK c) (h2 : 0 ≤ t.now ∧ t.now ≤ 73048) : 0 ≤ nowI t b c ∧ nowI t b c ≤ 73048 := by
  have := h.dy
  simp only [daysB, Bool.and_eq_true, decide_eq_true_eq] at this
  unfold nowI
  split <;> omega
theorem now_two (t : Sto) (b : Cn) (c : Ct) (l : List Pt) : nowI ⟨l, nowI t b c⟩ b c = nowI t b c := by
  unfold nowI
  split <;> simp only <;> omega
theorem learn_ge (t : Sto) (b : Cn) (c : Ct) : t.now ≤ (learnS t b c).now := by
  unfold learnS
  split
  · exact Int.le_refl _
  · split <;> exact now_ge t b c
def learnR (t : Sto) (b : Cn) (c : Ct) : List Pt := if 2 < (learnL t b c).length then (learnL t b c).drop 1 else learnL t b c
theorem learnR_is {t : Sto} (b : Cn) (c : Ct) (hl : t.pts.length ≤ 2) : learnR t b c = [newP b c] ∨ ∃ x ∈ t.pts, learnR t b c = [x, newP b c] := by
  obtain ⟨K, hK⟩ : ∃ K, keepL (nowI t b c) t.pts = K := ⟨_, rfl⟩
  have h1 : ∀ x ∈ K, x ∈ t.pts := fun x hx => by
    rw [← hK] at hx
    exact (List.mem_filter.1 hx).1
  have h2 : K.length ≤ 2 := by
    rw [← hK]
    exact Nat.le_trans (List.length_filter_le _ _) hl
  unfold learnR learnL
  rw [hK]
  match K, h1, h2 with
  | [], _, _ => exact .inl rfl
  | [a], h1, _ => exact .inr ⟨a, h1 a (by simp), rfl⟩
  | [a, d], h1, _ => exact .inr ⟨d, h1 d (by simp), rfl⟩
  | a :: d :: e :: r, _, h2 => exact absurd h2 (by simp)
theorem valid_mk {l : List Pt} {n : Int} (h1 : 1 ≤ l.length ∧ l.length ≤ 2) (h2 : ∀ p ∈ l, pointE p = 0) (h3 : dupB l = false) (h4 : 0 ≤ n ∧ n ≤ 73048) : validE ⟨l, n⟩ = 0 := by
  have e1 : firE l = 0 := firE_no fun j hj => h2 _ (List.getElem_mem hj)
  have e2 : dayB n = true := by
    unfold dayB
    simp only [Bool.and_eq_true, decide_eq_true_eq]
    exact h4
  unfold validE
  simp only [e1, h3, e2]
  rw [if_neg (by omega)]
  rfl
theorem dup_of {s : Sto} (h : validE s = 0) : dupB s.pts = false := by
  cases hd : dupB s.pts with
  | false => rfl
  | true =>
    unfold validE at h
    split at h
    · cases h
    · split at h
      · rename_i h2
        exact absurd h h2
      · simp [hd] at h
theorem learn_valid {t : Sto} {b : Cn} {c : Ct} (ht : validE t = 0) (hc : checkE c = 0) : validE (learnS t b c) = 0 := by
  have hk := ck_ok hc
  have hv := valid_ok ht
  have hn := now_rng (b := b) hk hv.2.2
  unfold learnS
  split
  · exact ht
  · split
    · exact valid_mk hv.1 hv.2.1 (dup_of ht) hn
    · rename_i h1 h2
      have e : (if 2 < (learnL t b c).length then (learnL t b c).drop 1 else learnL t b c) = learnR t b c := rfl
      rw [e]
      have hh : hasB t.pts c.hold = false := by
        cases hq : hasB t.pts c.hold with
        | false => rfl
        | true => exact absurd (.inr hq) h2
      rcases learnR_is b c hv.1.2 with e | ⟨x, hx, e⟩
      · rw [e]
        exact valid_mk (by simp) (fun p hp => by rw [List.mem_singleton.1 hp]; exact newP_ok hk) rfl hn
      · rw [e]
        have hx2 : (x.h == c.hold) = false := by
          have := List.any_eq_false.1 hh x hx
          simpa [hasP] using this
        exact valid_mk (by simp) (fun p hp => by
          rcases List.mem_cons.1 hp with rfl | hp
          · exact hv.2.1 _ hx
          · rw [List.mem_singleton.1 hp]
            exact newP_ok hk) hx2 hn
theorem learn_twice {t : Sto} {b : Cn} {c : Ct} (ht : validE t = 0) (hc : checkE c = 0) : learnS (learnS t b c) b c = learnS t b c := by
  have hv := learn_valid (b := b) ht hc
  have hu : learnS t b c = if c.role ≠ 1 ∨ hasB t.pts c.hold = true then ⟨t.pts, nowI t b c⟩ else ⟨learnR t b c, nowI t b c⟩ := by
    unfold learnS
    rw [if_neg (by omega)]
    rfl
  obtain ⟨u, hq⟩ : ∃ u, learnS t b c = u := ⟨_, rfl⟩
  rw [hq] at hv hu ⊢
  have h2 : learnS u b c = if c.role ≠ 1 ∨ hasB u.pts c.hold = true then ⟨u.pts, nowI u b c⟩ else ⟨learnR u b c, nowI u b c⟩ := by
    unfold learnS
    rw [if_neg (by omega)]
    rfl
  rw [h2]
  split at hu
  · rename_i h
    subst hu
    rw [if_pos h, now_two]
  · rename_i h
    have hp : hasB u.pts c.hold = true := by
      rw [hu]
      have hn : hasP c.hold (newP b c) = true := by simp [hasP, newP]
      rcases learnR_is b c (valid_ok ht).1.2 with e | ⟨x, hx, e⟩
      · simp only [e, hasB, List.any_cons, List.any_nil, hn, Bool.or_false]
      · simp only [e, hasB, List.any_cons, List.any_nil, hn, Bool.or_false, Bool.or_true]
    rw [if_pos (.inr hp)]
    subst hu
    simp only [now_two]
theorem learn_pts {t : Sto} {b : Cn} {c : Ct} (ht : validE t = 0) : ∀ p ∈ (learnS t b c).pts, p ∈ t.pts ∨ bits .andNot .i64 p.rt b.rt = 0 := by
  intro p hp
  unfold learnS at hp
  split at hp
  · exact .inl hp
  · split at hp
    · exact .inl hp
    · have hp : p ∈ learnR t b c := hp
      have hz : bits .andNot .i64 (newP b c).rt b.rt = 0 := andNot_and c.rt b.rt
      rcases learnR_is b c (valid_ok ht).1.2 with e | ⟨x, hx, e⟩
      · rw [e] at hp
        rw [List.mem_singleton.1 hp]
        exact .inr hz
      · rw [e] at hp
        rcases List.mem_cons.1 hp with rfl | hp
        · exact .inl hx
        · rw [List.mem_singleton.1 hp]
          exact .inr hz
end Go.Proofs.YtgmmdijmlnehlaaDoor
