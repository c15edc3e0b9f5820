import Derived.Test.YteodlgmcniikpaaCnP
namespace Go.Proofs.Yteodlgmcniikpaa
open Go.RowKit Go.TravelBase Go.TravelAbs
set_option linter.unusedVariables false
set_option linter.unusedSimpArgs false

/-! ### Commands: read as written, and written as read -/
theorem numS_one (b : UInt8) : numS [b] = b.toNat := by simp [numS]
theorem numS_two (a b : UInt8) : numS [a, b] = a.toNat * 256 + b.toNat := by simp [numS]
theorem len_bn (t : Bool) (n : Int) : (bn t n).length = if t then 2 else 1 := by cases t <;> rfl
theorem num_b1 {n : Int} (h : 0 ≤ n ∧ n ≤ 255) : numS (b1 n) = n.toNat := by
  rw [b1, numS_one, byt_to h.1]
  omega
theorem num_b2 {n : Int} (h : 0 ≤ n ∧ n ≤ 65535) : numS (b2 n) = n.toNat := by
  rw [b2, numS_two, byt_to (by omega), byt_to h.1]
  omega
theorem expd_b1 {n : Int} (h : 1 ≤ n ∧ n ≤ 256) : expd (b1 n) = n := by
  unfold expd b1
  rw [numS_one, byt_to (by omega)]
  simp only [List.length_cons, List.length_nil, pw8, Nat.zero_add, reduceIte]
  split <;> omega
theorem expd_b2 {n : Int} (h : 1 ≤ n ∧ n ≤ 65536) : expd (b2 n) = n := by
  unfold expd b2
  rw [numS_two, byt_to (by omega), byt_to (by omega)]
  simp only [List.length_cons, List.length_nil, pw8]
  simp only [Nat.zero_add, Nat.reduceAdd, Nat.reduceEqDiff, reduceIte]
  split <;> omega
theorem body_e {E : List UInt8} {s : Nat} (h : E.length = s) : bodyOK E s ∧ bodyD E s = [] ∧ bodyE E s = expd E := by
  unfold bodyOK bodyD bodyE
  rw [if_pos h, if_pos h]
  exact ⟨.inl h, rfl, rfl⟩
theorem body_d {N d : List UInt8} {s : Nat} (hN : N.length = s) (hn : numS N = d.length) (h0 : d.length ≠ 0) (h1 : d.length ≤ 4096) : bodyOK (N ++ d) s ∧ bodyD (N ++ d) s = d ∧ bodyE (N ++ d) s = -1 := by
  have e1 : (N ++ d).take s = N := List.take_left' hN
  have e2 : (N ++ d).drop s = d := List.drop_left' hN
  have e3 : (N ++ d).length = s + d.length := by rw [List.length_append, hN]
  unfold bodyOK bodyD bodyE
  rw [e1, e2, e3, hn]
  refine ⟨.inr ⟨by omega, h0, h1, .inl rfl⟩, ?_, ?_⟩
  · rw [if_neg (by omega), List.take_length]
  · rw [if_neg (by omega), if_pos rfl]
theorem body_b {N d E : List UInt8} {s : Nat} (hs : 1 ≤ s) (hN : N.length = s) (hn : numS N = d.length) (h0 : d.length ≠ 0) (h1 : d.length ≤ 4096) (hE : E.length = s) : bodyOK (N ++ (d ++ E)) s ∧ bodyD (N ++ (d ++ E)) s = d ∧ bodyE (N ++ (d ++ E)) s = expd E := by
  have e1 : (N ++ (d ++ E)).take s = N := List.take_left' hN
  have e2 : (N ++ (d ++ E)).drop s = d ++ E := List.drop_left' hN
  have e3 : (N ++ (d ++ E)).length = s + d.length + s := by rw [List.length_append, List.length_append, hN, hE]; omega
  unfold bodyOK bodyD bodyE
  rw [e1, e2, e3, hn]
  refine ⟨.inr ⟨by omega, h0, h1, .inr rfl⟩, ?_, ?_⟩
  · rw [if_neg (by omega), List.take_left' rfl]
  · rw [if_neg (by omega), if_neg (by omega), List.drop_left' rfl]
/-- What was read, in parts. -/
theorem body_inv {r : List UInt8} {s : Nat} (h : bodyOK r s) : r.length = s ∧ bodyD r s = [] ∧ bodyE r s = expd r ∨ ∃ N d E, r = N ++ (d ++ E) ∧ N.length = s ∧ numS N = d.length ∧ d.length ≠ 0 ∧ d.length ≤ 4096 ∧ bodyD r s = d ∧ (E = [] ∧ bodyE r s = -1 ∨ E.length = s ∧ bodyE r s = expd E) := by
  rcases h with h | ⟨h1, h2, h3, h4⟩
  · exact .inl ⟨h, (body_e h).2⟩
  · refine .inr ⟨r.take s, (r.drop s).take (numS (r.take s)), (r.drop s).drop (numS (r.take s)), ?_, ?_, ?_, ?_, ?_, ?_, ?_⟩
    · rw [List.take_append_drop, List.take_append_drop]
    · rw [List.length_take]; omega
    · rw [List.length_take, List.length_drop]; omega
    · rw [List.length_take, List.length_drop]; omega
    · rw [List.length_take, List.length_drop]; omega
    · rw [bodyD, if_neg (by omega)]
    · by_cases h5 : r.length = s + numS (r.take s)
      · refine .inl ⟨List.drop_of_length_le (by rw [List.length_drop]; omega), ?_⟩
        rw [bodyE, if_neg (by omega), if_pos h5]
      · refine .inr ⟨by rw [List.length_drop, List.length_drop]; omega, ?_⟩
        rw [bodyE, if_neg (by omega), if_neg h5]

theorem form_1 {r : List UInt8} (h : r.length ≠ 0) (h1 : r.length = 1 ∨ r.getD 0 0 ≠ 0) : form r = 1 ∧ rest2 r = r := by
  have e : form r = 1 := by unfold form; rw [if_neg h, if_pos h1]
  exact ⟨e, by unfold rest2; rw [e]; rfl⟩
theorem form_2 {u : List UInt8} (h : u.length ≠ 0) : form (0 :: u) = 2 ∧ rest2 (0 :: u) = u := by
  have e : form (0 :: u) = 2 := by
    unfold form
    rw [if_neg (by simp), if_neg (by simp; exact fun q => h (by rw [q]; rfl))]
  exact ⟨e, by unfold rest2; rw [e]; rfl⟩
theorem dec_1 {r : List UInt8} (h : form r = 1 ∧ rest2 r = r) {d : List UInt8} {e : Int} (hb : bodyOK r 1 ∧ bodyD r 1 = d ∧ bodyE r 1 = e) : decOK r ∧ decD r = d ∧ decX r = e := by
  unfold decOK decD decX
  rw [h.1, h.2]
  exact ⟨.inr hb.1, hb.2.1, hb.2.2⟩
theorem dec_2 {r u : List UInt8} (h : form r = 2 ∧ rest2 r = u) {d : List UInt8} {e : Int} (hb : bodyOK u 2 ∧ bodyD u 2 = d ∧ bodyE u 2 = e) : decOK r ∧ decD r = d ∧ decX r = e := by
  unfold decOK decD decX
  rw [h.1, h.2]
  exact ⟨.inr hb.1, hb.2.1, hb.2.2⟩
/-- What is behind the head of a command's bytes. -/
def tlB (c : Cm) : List UInt8 := (if lngC c then [0] else []) ++ ((if c.data = [] then [] else bn (lngC c) c.data.length ++ c.data) ++ (if c.exp = -1 then [] else bn (lngC c) c.exp))
theorem encB_eq (c : Cm) : encB c = hdC c ++ tlB c := by unfold encB tlB; simp
theorem dec_tl {c : Cm} (h : ValC c) : decOK (tlB c) ∧ decD (tlB c) = c.data ∧ decX (tlB c) = c.exp := by
  obtain ⟨-, -, hl, hx⟩ := h
  unfold tlB
  cases hg : lngC c with
  | false =>
    have hg : ¬ (255 < (c.data.length : Int) ∨ 256 < c.exp) := of_decide_eq_false hg
    simp only [bn, Bool.false_eq_true, reduceIte, List.nil_append]
    by_cases hd : c.data = []
    · rw [if_pos hd]
      by_cases he : c.exp = -1
      · rw [if_pos he, hd, he]
        exact ⟨.inl rfl, rfl, rfl⟩
      · rw [if_neg he, List.nil_append]
        have := dec_1 (form_1 (r := b1 c.exp) (by simp [b1]) (.inl rfl)) (body_e rfl)
        rw [expd_b1 (by omega)] at this
        rw [hd]
        exact this
    · have hd0 : c.data.length ≠ 0 := fun q => hd (List.length_eq_zero_iff.1 q)
      rw [if_neg hd]
      have hn := num_b1 (n := c.data.length) (by omega)
      have hz : byt (c.data.length : Int) ≠ 0 := fun q => by
        have := byt_back (x := c.data.length) (by omega)
        rw [q] at this
        have h0 : (UInt8.toNat 0) = 0 := rfl
        omega
      by_cases he : c.exp = -1
      · rw [if_pos he, List.append_nil, he]
        exact dec_1 (form_1 (by simp [b1]) (.inr (by simpa [b1] using hz))) (body_d rfl (by omega) hd0 (by omega))
      · rw [if_neg he, List.append_assoc]
        have := dec_1 (form_1 (r := b1 c.data.length ++ (c.data ++ b1 c.exp)) (by simp [b1]) (.inr (by simpa [b1] using hz))) (body_b (E := b1 c.exp) (by omega) rfl (by omega) hd0 (by omega) rfl)
        rw [expd_b1 (by omega)] at this
        exact this
  | true =>
    have hg : (255 < (c.data.length : Int) ∨ 256 < c.exp) := of_decide_eq_true hg
    simp only [bn, reduceIte]
    show decOK (0 :: _) ∧ decD (0 :: _) = _ ∧ decX (0 :: _) = _
    by_cases hd : c.data = []
    · rw [if_pos hd]
      have he : c.exp ≠ -1 := by
        rw [hd] at hg
        simp at hg
        omega
      rw [if_neg he, List.nil_append]
      have := dec_2 (form_2 (u := b2 c.exp) (by simp [b2])) (body_e rfl)
      rw [expd_b2 (by omega)] at this
      rw [hd]
      exact this
    · have hd0 : c.data.length ≠ 0 := fun q => hd (List.length_eq_zero_iff.1 q)
      rw [if_neg hd]
      have hn := num_b2 (n := c.data.length) (by omega)
      by_cases he : c.exp = -1
      · rw [if_pos he, List.append_nil, he]
        exact dec_2 (form_2 (by simp [b2])) (body_d rfl (by omega) hd0 (by omega))
      · rw [if_neg he, List.append_assoc]
        have := dec_2 (form_2 (u := b2 c.data.length ++ (c.data ++ b2 c.exp)) (by simp [b2])) (body_b (E := b2 c.exp) (by omega) rfl (by omega) hd0 (by omega) rfl)
        rw [expd_b2 (by omega)] at this
        exact this
theorem dec_enc {c : Cm} (h : ValC c) : decE (encB c) = 0 ∧ decV (encB c) = c := by
  obtain ⟨h1, h2, h3⟩ := dec_tl h
  obtain ⟨⟨hi, hp, hq⟩, hc, -⟩ := h
  have e4 : (encB c).drop 4 = tlB c := by rw [encB_eq]; rfl
  have g0 : (encB c).getD 0 0 = byt c.cls := by rw [encB_eq]; rfl
  have g1 : (encB c).getD 1 0 = byt c.ins := by rw [encB_eq]; rfl
  have g2 : (encB c).getD 2 0 = byt c.p1 := by rw [encB_eq]; rfl
  have g3 : (encB c).getD 3 0 = byt c.p2 := by rw [encB_eq]; rfl
  have hl : ¬ (encB c).length < 4 := by rw [encB_eq, hdC]; simp
  have he : decE (encB c) = 0 := by
    have := byt_back (x := c.cls) (by omega)
    unfold decE
    rw [if_neg hl, e4, g0, if_neg (by simpa using h1), if_neg (by omega)]
  refine ⟨he, ?_⟩
  unfold decV
  rw [if_pos he, e4, g0, g1, g2, g3, h2, h3, byt_back (by omega), byt_back hi, byt_back hp, byt_back hq]

theorem b1_one (b : UInt8) : b1 (b.toNat : Int) = [b] := by rw [b1, back_byt]
theorem b1_num {N : List UInt8} (h : N.length = 1) : b1 (numS N : Int) = N := by
  match N, h with
  | [b], _ => rw [numS_one, b1_one]
theorem b2_num {N : List UInt8} (h : N.length = 2) : b2 (numS N : Int) = N := by
  match N, h with
  | [a, b], _ =>
    have ha := a.toNat_lt
    have hb := b.toNat_lt
    rw [numS_two, b2]
    have e1 : byt (((a.toNat * 256 + b.toNat : Nat) : Int) / 256) = a := by
      rw [show ((a.toNat * 256 + b.toNat : Nat) : Int) / 256 = a.toNat by omega, back_byt]
    have e2 : byt ((a.toNat * 256 + b.toNat : Nat) : Int) = b := by
      rw [← back_byt b]
      refine byt_mod (by omega) (by omega) ?_
      rw [back_byt]
      omega
    rw [e1, e2]
theorem b1_expd {N : List UInt8} (h : N.length = 1) : b1 (expd N) = N ∧ 1 ≤ expd N ∧ expd N ≤ 256 := by
  have h1 := numS_lt N
  rw [h] at h1
  unfold expd
  rw [h]
  split
  · rename_i h0
    refine ⟨?_, by decide, by decide⟩
    have := b1_num h
    rw [h0] at this
    rw [← this]
    rfl
  · exact ⟨b1_num h, by omega, by omega⟩
theorem b2_expd {N : List UInt8} (h : N.length = 2) : b2 (expd N) = N ∧ 1 ≤ expd N ∧ expd N ≤ 65536 := by
  have h1 := numS_lt N
  rw [h] at h1
  unfold expd
  rw [h]
  split
  · rename_i h0
    refine ⟨?_, by decide, by decide⟩
    have := b2_num h
    rw [h0] at this
    rw [← this]
    rfl
  · exact ⟨b2_num h, by omega, by omega⟩
theorem form_inv (r : List UInt8) : form r = 0 ∧ r = [] ∨ form r = 1 ∧ rest2 r = r ∧ r ≠ [] ∨ form r = 2 ∧ r = 0 :: rest2 r := by
  match r with
  | [] => exact .inl ⟨rfl, rfl⟩
  | a :: u =>
    by_cases h : (a :: u).length = 1 ∨ (a :: u).getD 0 0 ≠ 0
    · have := form_1 (r := a :: u) (by simp) h
      exact .inr (.inl ⟨this.1, this.2, by simp⟩)
    · have ha : a = 0 := by
        simp only [not_or, List.getD_cons_zero, ne_eq, Decidable.not_not] at h
        exact h.2
      subst ha
      have hu : u.length ≠ 0 := fun q => h (.inl (by simp [q]))
      have := form_2 hu
      exact .inr (.inr ⟨this.1, by rw [this.2]⟩)
/-- A read command's tail is written again, or is in extended form without need. -/
theorem tl_dec {r : List UInt8} (h : decOK r) {c : Cm} (hd : c.data = decD r) (hx : c.exp = decX r) : (c.data.length : Int) ≤ 4096 ∧ (c.exp = -1 ∨ 1 ≤ c.exp ∧ c.exp ≤ 65536) ∧ (tlB c = r ∨ (tlB c).length < r.length) := by
  unfold decOK at h
  unfold decD at hd
  unfold decX at hx
  rcases form_inv r with ⟨hf, rfl⟩ | ⟨hf, hr, hne⟩ | ⟨hf, hr⟩
  · rw [if_pos hf] at hd hx
    have hg : lngC c = false := by unfold lngC; rw [hd, hx]; rfl
    refine ⟨by rw [hd]; decide, .inl hx, .inl ?_⟩
    unfold tlB
    rw [hg, hd, hx]
    rfl
  · rw [hf, hr] at h hd hx
    rw [if_neg (by decide)] at hd hx
    rcases body_inv (h.resolve_left (by decide)) with ⟨hl, e1, e2⟩ | ⟨N, d, E, er, hN, hn, h0, h1, e1, e2⟩
    · obtain ⟨u1, u2, u3⟩ := b1_expd hl
      rw [e1] at hd
      rw [e2] at hx
      have hg : lngC c = false := by unfold lngC; rw [hd, hx]; simp; omega
      refine ⟨by rw [hd]; decide, .inr (by omega), .inl ?_⟩
      have hx0 : ¬ c.exp = -1 := by omega
      unfold tlB
      rw [hg, hd, if_pos rfl, if_neg hx0, hx]
      simp only [bn, Bool.false_eq_true, reduceIte, List.nil_append]
      exact u1
    · rw [e1] at hd
      have hn1 := numS_lt N
      rw [hN] at hn1
      have hne : ¬ d = [] := fun q => h0 (by rw [q]; rfl)
      have u0 := b1_num hN
      rw [hn] at u0
      rcases e2 with ⟨hE, e2⟩ | ⟨hE, e2⟩
      · rw [e2] at hx
        have hg : lngC c = false := by unfold lngC; rw [hd, hx]; simp; omega
        refine ⟨by rw [hd]; omega, .inl hx, .inl ?_⟩
        unfold tlB
        rw [hg, hd, if_neg hne, if_pos hx, er, hE]
        simp only [bn, Bool.false_eq_true, reduceIte, List.nil_append, u0, List.append_nil]
      · obtain ⟨u1, u2, u3⟩ := b1_expd hE
        rw [e2] at hx
        have hg : lngC c = false := by unfold lngC; rw [hd, hx]; simp; omega
        refine ⟨by rw [hd]; omega, .inr (by omega), .inl ?_⟩
        have hx0 : ¬ c.exp = -1 := by omega
        unfold tlB
        rw [hg, hd, if_neg hne, if_neg hx0, er, hx]
        simp only [bn, Bool.false_eq_true, reduceIte, List.nil_append, u0, u1, List.append_assoc]
  · rw [hf] at h hd hx
    rw [if_neg (by decide)] at hd hx
    obtain ⟨u, hu⟩ : ∃ u, rest2 r = u := ⟨_, rfl⟩
    rw [hu] at h hd hx hr
    subst hr
    have hle : ∀ t, lngC c = t → (bn t c.data.length).length ≤ 2 ∧ (bn t c.exp).length ≤ 2 := fun t _ => by cases t <;> exact ⟨by simp [bn, b1, b2], by simp [bn, b1, b2]⟩
    rcases body_inv (h.resolve_left (by decide)) with ⟨hl, e1, e2⟩ | ⟨N, d, E, er, hN, hn, h0, h1, e1, e2⟩
    · obtain ⟨u1, u2, u3⟩ := b2_expd hl
      rw [e1] at hd
      rw [e2] at hx
      refine ⟨by rw [hd]; decide, .inr (by omega), ?_⟩
      have hx0 : ¬ c.exp = -1 := by omega
      unfold tlB
      rw [hd, if_pos rfl, if_neg hx0, hx]
      cases hg : lngC c with
      | true => exact .inl (by simp only [bn, reduceIte, List.nil_append, u1, List.singleton_append])
      | false => exact .inr (by simp [bn, b1, hl])
    · rw [e1] at hd
      have hne : ¬ d = [] := fun q => h0 (by rw [q]; rfl)
      have u0 := b2_num hN
      rw [hn] at u0
      rcases e2 with ⟨hE, e2⟩ | ⟨hE, e2⟩
      · rw [e2] at hx
        refine ⟨by rw [hd]; omega, .inl hx, ?_⟩
        unfold tlB
        rw [hd, if_neg hne, if_pos hx, er, hE]
        cases hg : lngC c with
        | true => exact .inl (by simp only [bn, reduceIte, List.nil_append, u0, List.append_nil, List.singleton_append])
        | false => exact .inr (by simp [bn, b1, hN])
      · obtain ⟨u1, u2, u3⟩ := b2_expd hE
        rw [e2] at hx
        refine ⟨by rw [hd]; omega, .inr (by omega), ?_⟩
        have hx0 : ¬ c.exp = -1 := by omega
        unfold tlB
        rw [hd, if_neg hne, if_neg hx0, er, hx]
        cases hg : lngC c with
        | true => exact .inl (by simp only [bn, reduceIte, List.nil_append, u0, u1, List.append_assoc, List.singleton_append])
        | false => exact .inr (by simp [bn, b1, hN, hE]; omega)
theorem hd_list (s : List UInt8) (h : ¬ s.length < 4) : [s.getD 0 0, s.getD 1 0, s.getD 2 0, s.getD 3 0] ++ s.drop 4 = s := by
  match s, h with
  | a :: b :: c :: d :: r, _ => rfl
  | [], h => exact absurd (by simp) h
  | [_], h => exact absurd (by simp) h
  | [_, _], h => exact absurd (by simp) h
  | [_, _, _], h => exact absurd (by simp) h
theorem enc_dec {s : List UInt8} (h : decE s = 0) : ValC (decV s) ∧ (encB (decV s) = s ∨ (encB (decV s)).length < s.length) := by
  have h' := h
  unfold decE at h
  split at h
  · cases h
  rename_i hl
  split at h
  · cases h
  rename_i ho
  split at h
  · cases h
  rename_i hc
  have ho : decOK (s.drop 4) := Decidable.not_not.1 ho
  have e : decV s = ⟨(s.getD 0 0).toNat, (s.getD 1 0).toNat, (s.getD 2 0).toNat, (s.getD 3 0).toNat, decD (s.drop 4), decX (s.drop 4)⟩ := by rw [decV, if_pos h']
  rw [e]
  obtain ⟨v1, v2, v3⟩ := tl_dec ho (c := ⟨(s.getD 0 0).toNat, (s.getD 1 0).toNat, (s.getD 2 0).toNat, (s.getD 3 0).toNat, decD (s.drop 4), decX (s.drop 4)⟩) rfl rfl
  have t0 := (s.getD 0 0).toNat_lt
  have t1 := (s.getD 1 0).toNat_lt
  have t2 := (s.getD 2 0).toNat_lt
  have t3 := (s.getD 3 0).toNat_lt
  refine ⟨⟨⟨⟨by simp only; omega, by simp only; omega⟩, ⟨by simp only; omega, by simp only; omega⟩, by simp only; omega, by simp only; omega⟩, ⟨by simp only; omega, by simp only; omega⟩, v1, v2⟩, ?_⟩
  have hh := hd_list s hl
  rw [encB_eq]
  have eh : hdC ⟨(s.getD 0 0).toNat, (s.getD 1 0).toNat, (s.getD 2 0).toNat, (s.getD 3 0).toNat, decD (s.drop 4), decX (s.drop 4)⟩ = [s.getD 0 0, s.getD 1 0, s.getD 2 0, s.getD 3 0] := by
    simp only [hdC, back_byt]
  rw [eh]
  rcases v3 with v3 | v3
  · exact .inl (by rw [v3, hh])
  · refine .inr ?_
    have : s.length = 4 + (s.drop 4).length := by rw [List.length_drop]; omega
    rw [List.length_append, this]
    simp only [List.length_cons, List.length_nil]
    omega
end Go.Proofs.Yteodlgmcniikpaa
