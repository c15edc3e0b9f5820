import Derived.Test.YtloihfflblgioaaBiI
namespace Go.Proofs.Ytloihfflblgioaa
open Go.RowKit Go.TravelBase Go.TravelAbs
set_option linter.unusedVariables false
set_option linter.unusedSimpArgs false

















/-! ### A template's object: the plain law -/
def gK (h : List Nd) (k : Nat) : Bool := isB (h.getD k nd0).tag (h.getD k nd0).val.length (h.getD k nd0).kids.length (fldT k) && ((h.getD k nd0).val.length : Int) == fldS k
theorem gooH_drop {h : List Nd} (h6 : h.length = 6) {i : Nat} (hi : i < 6) : gooH (h.drop i) = gK h i ∧ nvH (h.drop i) = if gK h i = true then numV (h.getD i nd0).val else 0 := by
  have e1 : (h.drop i).headD nd0 = h.getD i nd0 := by
    rw [List.headD_eq_head?_getD, List.head?_drop, List.getD_eq_getElem?_getD]
  have e2 : 6 - (h.drop i).length = i := by rw [List.length_drop]; omega
  have e3 : gooH (h.drop i) = gK h i := by unfold gooH gK; rw [e1, e2]
  exact ⟨e3, by unfold nvH; rw [e3, e1]⟩
theorem itH_drop {h : List Nd} (h6 : h.length = 6) : ∀ i, i ≤ 6 → (∀ j, j < i → gK h j = true) → itH i h = h.drop i
  | 0, _, _ => rfl
  | i + 1, hi, hg => by
    have h1 := itH_drop h6 i (by omega) (fun j hj => hg j (by omega))
    have h2 := (gooH_drop h6 (i := i) (by omega)).1
    rw [itH, h1, nxH, h2, if_pos (hg i (by omega)), List.drop_drop, Nat.add_comm]
theorem tpl_good {x : Nd} (h6 : (hdrT x).length = 6) (hg : ∀ j, j < 6 → gK (hdrT x) j = true) :
    tplB x = true ∧ tplT x = ⟨numV ((hdrT x).getD 0 nd0).val, numV ((hdrT x).getD 1 nd0).val, numV ((hdrT x).getD 2 nd0).val, numV ((hdrT x).getD 3 nd0).val, numV ((hdrT x).getD 5 nd0).val, numV ((hdrT x).getD 4 nd0).val, (secT x).val⟩ := by
  have h1 := fun i hi => itH_drop h6 i hi fun j hj => hg j (by omega)
  have h2 := fun i (hi : i < 6) => gooH_drop h6 hi
  unfold tplB tplT
  rw [h1 0 (by omega), h1 1 (by omega), h1 2 (by omega), h1 3 (by omega), h1 4 (by omega), h1 5 (by omega)]
  rw [(h2 0 (by omega)).1, (h2 1 (by omega)).1, (h2 2 (by omega)).1, (h2 3 (by omega)).1, (h2 4 (by omega)).1, (h2 5 (by omega)).1]
  rw [(h2 0 (by omega)).2, (h2 1 (by omega)).2, (h2 2 (by omega)).2, (h2 3 (by omega)).2, (h2 4 (by omega)).2, (h2 5 (by omega)).2]
  simp only [hg 0 (by omega), hg 1 (by omega), hg 2 (by omega), hg 3 (by omega), hg 4 (by omega), hg 5 (by omega), Bool.and_true, if_true, and_self]
theorem tpl_bad {x : Nd} (h6 : (hdrT x).length = 6) {k : Nat} (hk : k < 6) (h0 : ∀ j, j < k → gK (hdrT x) j = true) (hb : gK (hdrT x) k = false) : tplB x = false := by
  have h1 := itH_drop h6 k (by omega) h0
  have h2 := (gooH_drop h6 hk).1
  rw [hb, ← h1] at h2
  unfold tplB
  rcases (show k = 0 ∨ k = 1 ∨ k = 2 ∨ k = 3 ∨ k = 4 ∨ k = 5 by omega) with rfl | rfl | rfl | rfl | rfl | rfl <;> rw [h2] <;> simp
/-! ### What was written is read: the plain law -/
theorem num_1 {n : Int} (h : 0 ≤ n) (h2 : n ≤ 255) : numV [byt n] = n := by
  have e : numS [byt n] = n.toNat := by simp only [numS, List.foldl_cons, List.foldl_nil, byt_to h]; omega
  unfold numV
  rw [if_neg (by simp), e]
  omega
theorem num_2 {n : Int} (h : 0 ≤ n) (h2 : n ≤ 65535) : numV [byt (n.fdiv 256), byt n] = n := by
  have f : n.fdiv 256 = n / 256 := Int.fdiv_eq_ediv_of_nonneg n (by omega)
  have e : numS [byt (n.fdiv 256), byt n] = n.toNat := by
    simp only [numS, List.foldl_cons, List.foldl_nil, byt_to h]
    rw [f, byt_to (by omega)]
    omega
  unfold numV
  rw [if_neg (by simp), e]
  omega
theorem num_4 {n : Int} (h : 0 ≤ n) (h2 : n ≤ 4294967295) : numV (fourL n) = n := by
  have f : n.fdiv 256 = n / 256 := Int.fdiv_eq_ediv_of_nonneg n (by omega)
  have f2 : n.fdiv 65536 = n / 65536 := Int.fdiv_eq_ediv_of_nonneg n (by omega)
  have f3 : n.fdiv 16777216 = n / 16777216 := Int.fdiv_eq_ediv_of_nonneg n (by omega)
  have e : numS (fourL n) = n.toNat := by
    simp only [fourL, numS, List.foldl_cons, List.foldl_nil, byt_to h]
    rw [f, f2, f3, byt_to (by omega), byt_to (by omega), byt_to (by omega)]
    omega
  unfold numV
  rw [if_neg (by simp [fourL]), e]
  omega
theorem num_oct {t : Tm} (hv : valT t = 0) {k : Nat} (hk : k < 6) : numV (octL (numT t k) (fldS k)) = numT t k ∧ ((octL (numT t k) (fldS k)).length : Int) = fldS k := by
  obtain ⟨h1, h2, h3, h4⟩ := val0 hv
  unfold PartT DayT RngT at *
  rcases (show k = 0 ∨ k = 1 ∨ k = 2 ∨ k = 3 ∨ k = 4 ∨ k = 5 by omega) with rfl | rfl | rfl | rfl | rfl | rfl
  · show numV (octL t.kind 1) = t.kind ∧ ((octL t.kind 1).length : Int) = 1
    rw [(octL_1 (n := t.kind) (by omega) (by omega)).1]
    exact ⟨num_1 (by omega) (by omega), rfl⟩
  · show numV (octL t.part 1) = t.part ∧ ((octL t.part 1).length : Int) = 1
    rw [(octL_1 (n := t.part) (by omega) (by omega)).1]
    exact ⟨num_1 (by omega) (by omega), rfl⟩
  · show numV (octL t.fr 4) = t.fr ∧ ((octL t.fr 4).length : Int) = 4
    rw [(octL_4 (n := t.fr) (by omega) (by omega)).1]
    exact ⟨num_4 (by omega) (by omega), rfl⟩
  · show numV (octL t.to 4) = t.to ∧ ((octL t.to 4).length : Int) = 4
    rw [(octL_4 (n := t.to) (by omega) (by omega)).1]
    exact ⟨num_4 (by omega) (by omega), rfl⟩
  · show numV (octL t.q 1) = t.q ∧ ((octL t.q 1).length : Int) = 1
    rw [(octL_1 (n := t.q) (by omega) (by omega)).1]
    exact ⟨num_1 (by omega) (by omega), rfl⟩
  · show numV (octL t.fmt 2) = t.fmt ∧ ((octL t.fmt 2).length : Int) = 2
    rw [(octL_2 (n := t.fmt) (by omega) (by omega)).1]
    exact ⟨num_2 (by omega) (by omega), rfl⟩
theorem headN_get (t : Tm) {k : Nat} (hk : k < 6) : (headN t).getD k nd0 = .mk (fldT k) (octL (numT t k) (fldS k)) [] := by
  simp [headN, List.getD, List.getElem?_range hk]
theorem cF : consT 32609 = true ∧ consT 32608 = true ∧ consT 161 = true ∧ consT 24366 = false ∧ consT 2 = false := by decide
theorem fldCons {k : Nat} (hk : k < 6) : consT (fldT k) = false := by
  rcases (show k = 0 ∨ k = 1 ∨ k = 2 ∨ k = 3 ∨ k = 4 ∨ k = 5 by omega) with rfl | rfl | rfl | rfl | rfl | rfl <;> decide
theorem gK_head {t : Tm} (hv : valT t = 0) {k : Nat} (hk : k < 6) : gK (headN t) k = true := by
  unfold gK
  rw [headN_get t hk]
  simp only [Nd.tag, Nd.val, Nd.kids, isB, fldCons hk, (num_oct hv hk).2, List.length_nil]
  simp
theorem tmp_obj {t : Tm} (hv : valT t = 0) : tmpB (objN t) = true ∧ tmpT (objN t) = t := by
  obtain ⟨c1, c2, c3, c4, c5⟩ := cF
  have h1 : hdrT (objN t) = headN t := rfl
  have h2 : secT (objN t) = .mk 24366 t.data [] := rfl
  have h3 : forB (objN t) = true := by
    unfold forB
    rw [h1, h2]
    simp only [objN, Nd.tag, Nd.val, Nd.kids, isB, c2, c3, c4, List.headD_cons, List.length_nil, List.length_cons]
    simp
  have h4 : (forB (objN t) && (hdrT (objN t)).length == 6) = true := by rw [h3, h1, headN_len]; rfl
  obtain ⟨q1, q2⟩ := tpl_good (x := objN t) (by rw [h1, headN_len]) (fun j hj => by rw [h1]; exact gK_head hv hj)
  refine ⟨by unfold tmpB; rw [if_pos h4, q1], ?_⟩
  unfold tmpT
  rw [if_pos h4, q2, h1, h2]
  simp only [headN_get t (show 0 < 6 by omega), headN_get t (show 1 < 6 by omega), headN_get t (show 2 < 6 by omega), headN_get t (show 3 < 6 by omega), headN_get t (show 4 < 6 by omega), headN_get t (show 5 < 6 by omega), Nd.val]
  rw [(num_oct hv (show 0 < 6 by omega)).1, (num_oct hv (show 1 < 6 by omega)).1, (num_oct hv (show 2 < 6 by omega)).1, (num_oct hv (show 3 < 6 by omega)).1, (num_oct hv (show 4 < 6 by omega)).1, (num_oct hv (show 5 < 6 by omega)).1]
  rfl
theorem enc_val {l : List Tm} (h : encE l = 0) : (1 ≤ l.length ∧ l.length ≤ 8) ∧ ∀ t ∈ l, valT t = 0 := by
  unfold encE at h
  split at h
  · cases h
  · exact ⟨by omega, firE_0 h⟩
theorem dec_enc {l : List Tm} (h : encE l = 0) : decE (encN l) = 0 ∧ decV (encN l) = l := by
  obtain ⟨c1, c2, c3, c4, c5⟩ := cF
  obtain ⟨hl, hv⟩ := enc_val h
  have e1 : encN l = [.mk 32609 [] (kidsN l l.length)] := if_pos h
  have e2 : kidsN l l.length = .mk 2 [byt l.length] [] :: l.map objN := by unfold kidsN; rw [List.take_length]
  have e3 : objL (encN l) = l.map objN := by rw [e1, e2]; rfl
  have e4 : hedB (encN l) = true := by
    have hb : (byt (l.length : Int)).toNat = l.length := by rw [byt_to (by omega)]; omega
    unfold hedB
    rw [e3]
    unfold numN grpN
    rw [e1, e2]
    simp only [List.headD_cons, Nd.tag, Nd.val, Nd.kids, isB, c1, c5, List.length_nil, List.length_cons, List.length_map, List.getD_cons_zero, hb]
    simp
  have e5 : (l.map objN).all tmpB = true := by
    rw [List.all_eq_true]
    intro x hx
    obtain ⟨t, ht, rfl⟩ := List.mem_map.1 hx
    exact (tmp_obj (hv t ht)).1
  have e6 : (l.map objN).map tmpT = l := by
    rw [List.map_map]
    exact (List.map_congr_left fun t ht => (tmp_obj (hv t ht)).2).trans (List.map_id _)
  have e7 : decE (encN l) = 0 := by
    unfold decE
    rw [if_neg (by simp [e4]), e3, if_neg (by simp [e5]), e6, h]
  exact ⟨e7, by unfold decV; rw [if_pos e7, e3, e6]⟩
theorem encN_ok (l : List Tm) : okNs (encN l) := by
  unfold encN
  split
  · rename_i h
    obtain ⟨hl, hv⟩ := enc_val h
    have ok_of : ∀ m : List Nd, (∀ n ∈ m, okN n) → okNs m := fun m => by
      induction m with
      | nil => intro _; exact trivial
      | cons a r ih =>
        intro hm
        rw [okNs]
        exact ⟨hm a (by simp), ih fun n hn => hm n (by simp [hn])⟩
    have h2 : ∀ t, valT t = 0 → okN (objN t) := fun t ht => by
      have := (val0 ht).2.2.2.2
      unfold objN
      rw [okN]
      refine ⟨by simp, ok_of _ fun n hn => ?_⟩
      simp only [List.mem_cons, List.not_mem_nil, or_false] at hn
      rcases hn with rfl | rfl
      · rw [okN]
        refine ⟨⟨by simp, by rw [headN_len]; omega⟩, ok_of _ fun n hn => ?_⟩
        obtain ⟨k, hk, rfl⟩ := List.mem_map.1 hn
        have hk : k < 6 := by simpa using hk
        have h3 := (num_oct ht hk).2
        have h4 := fldS_rng k
        rw [okN]
        exact ⟨⟨by omega, by simp⟩, trivial⟩
      · rw [okN]
        exact ⟨⟨by omega, by simp⟩, trivial⟩
    refine ok_of _ fun n hn => ?_
    rw [List.mem_singleton.1 hn, okN]
    refine ⟨⟨by simp, by rw [kidsN_len (Nat.le_refl _)]; omega⟩, ok_of _ fun n hn => ?_⟩
    unfold kidsN at hn
    rcases List.mem_cons.1 hn with rfl | hn
    · rw [okN]
      exact ⟨by simp, trivial⟩
    · obtain ⟨t, ht, rfl⟩ := List.mem_map.1 hn
      exact h2 t (hv t (List.mem_of_mem_take ht))
  · exact trivial
end Go.Proofs.Ytloihfflblgioaa
