import Derived.Test.YtjhiagelgleomaaAbsG
namespace Go.TravelAbs
open Go.RowKit Go.TravelBase
set_option linter.unusedVariables false
set_option linter.unusedSimpArgs false

section
variable {P : Program} {ty : Ty} {X : Cx} {H : List (Nat × Blk)} {S : CSet} {m : RMap} {w : World}
def Post (X : Cx) (H : List (Nat × Blk)) (S : CSet) (m : RMap) (w : World) (out : Out) (r : Result Next) : Prop :=
  ∃ v w' S' m', (r = .ok (.value v) w' ∨ (r = .ok .skip w' ∧ v = undef)) ∧ Adv S m w S' m' w' ∧ Mem X (out.eff ++ H) S' m' w' ∧ VR w' S' m' out.v v
theorem Post.pure {out : Out} {r : Result Next} {v : Value} (hM : Mem X H S m w) (he : out.eff = []) (hr : r = .ok (.value v) w) (hv : VR w S m out.v v) : Post X H S m w out r :=
  ⟨v, w, S, m, .inl hr, Adv.refl _ _ _, by rw [he]; exact hM, hv⟩
theorem zOK_iff {ti : TI} (h : zOK ti = true) : ti.zero.length = ti.size ∧ (∀ v ∈ ti.zero, v.oneCell' = true) ∧ (ti.kind.row = true ∨ ti.size = 1) ∧ 0 < ti.size := by
  simp only [zOK, Bool.and_eq_true, beq_iff_eq, List.all_eq_true, Bool.or_eq_true, decide_eq_true_eq] at h
  exact ⟨h.1.1.1, h.1.1.2, h.1.2, h.2⟩
theorem zeroA_cl {ti : TI} (h : zOK ti = true) : (zeroA ti).cl = ti.zero.map .lit := by
  obtain ⟨h1, h2, h3, h4⟩ := zOK_iff h
  unfold zeroA
  split
  · rfl
  · rename_i hr
    have h5 : ti.zero.length = 1 := by rcases h3 with h3 | h3 <;> simp_all
    obtain ⟨z, hz⟩ := List.length_eq_one_iff.1 h5
    rw [hz]
    rfl
theorem HA_one {es : Nat} {x : AV} {cur : Array Value} (hl : x.cl.length = es) (h : ∀ (j : Nat) (y : AV), x.cl[j]? = some y → ∃ u, cur[j]? = some u ∧ VR w S m y u) : HA w S m es (.li es [x]) cur := by
  intro i hi
  have : i = 0 := by simp only [cN, List.length_cons, List.length_nil] at hi; omega
  subst this
  refine ⟨hl, fun j y hy => ?_⟩
  rw [Nat.zero_mul, Nat.zero_add]
  exact h j y hy
theorem alloc_ok (hT : TysOK P ty) (hM : Mem X H S m w) {e : TypeId} {ti : TI} (ht : ty e = some ti) {fr : Nat} (hfr : lk H fr = none) (hz : zOK ti = true) :
    Post X H S m w ⟨.ptr fr 0 0, [(fr, ⟨.li ti.size [zeroA ti], 0, false⟩)], zOK ti = true⟩ ((do pure (.value (← Instr.alloc e true (.tuple #[]))) : Sem Next).run P w) := by
  obtain ⟨i, d, z, hi, hu, hs, hb, hzz, hcells, hk⟩ := (hT _ _ ht).ok
  obtain ⟨h1, h2, h3, h4⟩ := zOK_iff hz
  have hcl := zeroA_cl hz
  have hsz : z.cells.size = 1 * ti.size := by rw [← Array.length_toList, hcells, h1, Nat.one_mul]
  have hha : HA w S m ti.size (.li ti.size [zeroA ti]) z.cells := by
    refine HA_one (by rw [hcl]; simpa using h1) fun j y hy => ?_
    rw [hcl, List.getElem?_map] at hy
    obtain ⟨u, hu, rfl⟩ := Option.map_eq_some_iff.1 hy
    refine ⟨u, ?_, .lit _⟩
    rw [← hcells] at hu
    simpa using hu
  obtain ⟨hM', hadv⟩ := hM.new hfr e hsz (c := .li ti.size [zeroA ti]) rfl (by simp [cN]) (by decide) hha
  refine ⟨_, _, S, _, .inl ?_, hadv, hM', .ptr (i := 0) (off := 0) (r := ⟨w.heap.size, 1, ti.size⟩) (by simp [mset])⟩
  simp [Instr.alloc, zeroValue, typeInfo, hi, hzz, newVar, newRow]
theorem box_ok (hM : Mem X H S m w) {e : TypeId} {ti : TI} {x : AV} {v : Value} (hv : VR w S m x v) {fr : Nat} (hfr : lk H fr = none) (ho : okc x = true) (hl : x.cl.length = ti.size) (h0 : 0 < ti.size) (vc : Prop) :
    Post X H S m w ⟨.ptr fr 0 0, [(fr, ⟨.li ti.size [x], 0, false⟩)], vc⟩ ((do pure (.value (← Instr.box e v)) : Sem Next).run P w) := by
  obtain ⟨h1, h2, h3⟩ := cells_of hv ho
  have hha : HA w S m ti.size (.li ti.size [x]) v.cells := HA_one hl h2
  obtain ⟨hM', hadv⟩ := hM.new hfr e (cap := 1) (es := ti.size) (cur := v.cells) (by rw [h1, hl, Nat.one_mul]) (c := .li ti.size [x]) rfl (by simp [cN]) (by decide) hha
  refine ⟨_, _, S, _, .inl ?_, hadv, hM', .ptr (i := 0) (off := 0) (r := ⟨w.heap.size, 1, ti.size⟩) (by simp [mset])⟩
  simp [Instr.box, newVar, newRow]
/-- A load of a variable whose cells are known. -/
theorem ldA_ok (hT : TysOK P ty) {t : TypeId} {ti : TI} (ht : ty t = some ti) {x : AV} {off b o : Nat} (hc : ∀ j y, x.cl[j]? = some y → ∃ u, w.cell? ⟨b, o + j, none⟩ = some u ∧ VR w S m y u) (hvc : (ldA ti x off).2) :
    ∃ v, (Instr.loadAt t (.pointer (some ⟨b, o + off, none⟩))).run P w = .ok v w ∧ VR w S m (ldA ti x off).1 v := by
  obtain ⟨i, d, z, hi, hu, hs, hb, hzz, hcells, hk⟩ := (hT _ _ ht).ok
  obtain ⟨r1, _⟩ := row_of (hT _ _ ht)
  unfold ldA at hvc ⊢
  cases hrow : ti.kind.row with
  | true =>
    simp only [hrow, if_true] at hvc ⊢
    have hcell : ∀ j, j < ti.size → ∃ u, w.cell? ⟨b, o + off + j, none⟩ = some u := by
      intro j hj
      have hlt : off + j < x.cl.length := by omega
      obtain ⟨u, h1, _⟩ := hc (off + j) _ (List.getElem?_eq_getElem hlt)
      exact ⟨u, by rw [Nat.add_assoc]; exact h1⟩
    let cs := (List.range ti.size).map fun j => (w.cell? ⟨b, o + off + j, none⟩).getD undef
    have hcs : ∀ j u, cs[j]? = some u → j < ti.size ∧ w.cell? ⟨b, o + off + j, none⟩ = some u := by
      intro j u hu
      simp only [cs, List.getElem?_map] at hu
      obtain ⟨k, h1, rfl⟩ := Option.map_eq_some_iff.1 hu
      have hj : j < ti.size := by have := (List.getElem?_eq_some_iff.1 h1).1; simpa using this
      rw [List.getElem?_range hj] at h1
      injection h1 with h1
      subst h1
      obtain ⟨u, h2⟩ := hcell j hj
      rw [h2]
      exact ⟨hj, rfl⟩
    have hrun := run_loadAt_mid (P := P) w b (o + off) t cs d (fun j u hu => (hcs j u hu).2) hu (by rw [hu, hrow] at r1; cases d <;> first | rfl | cases r1) (by simp [hi, hs, cs])
    refine ⟨_, hrun, .agg (by simp [cs]; omega) fun j y u hy hu' => ?_⟩
    have hu2 : cs[j]? = some u := by simpa using hu'
    obtain ⟨hj, h2⟩ := hcs j u hu2
    rw [List.getElem?_take, if_pos hj, List.getElem?_drop] at hy
    obtain ⟨u', h3, h4⟩ := hc _ y hy
    rw [Nat.add_assoc] at h2
    rw [h2] at h3
    injection h3 with h3
    rw [h3]
    exact h4
  | false =>
    simp only [hrow, Bool.false_eq_true, if_false] at hvc ⊢
    obtain ⟨u, h1, h2⟩ := hc off _ (getD_of_lt (d := zeroA ti) hvc)
    refine ⟨u, ?_, h2⟩
    have hagg : (isAgg t).run P w = .ok false w := by
      rw [hu, hrow] at r1
      unfold isAgg
      rw [Sem.run_bind, run_underlying hu w]
      cases d <;> first | rfl | cases r1
    simp [Instr.loadAt, Instr.sureAddr, loadVar, hagg, load, Sem.run, h1]
theorem ld_ptr (hT : TysOK P ty) (hM : Mem X H S m w) {t : TypeId} {ti : TI} (ht : ty t = some ti) {k i off : Nat} {v : Value} (hv : VR w S m (.ptr k i off) v) {b : Blk} (hb : lk H k = some b) (hm : b.mode < 3) (hi : i < cN b.c) (hvc : (ldA ti (cAt b.c i) off).2) (vc : Prop) :
    Post X H S m w ⟨(ldA ti (cAt b.c i) off).1, [], vc⟩ ((do pure (.value (← Instr.loadAt t v)) : Sem Next).run P w) := by
  obtain ⟨r, hr, rfl⟩ := hv.ptr_inv
  obtain ⟨r', h1, h2⟩ := hM.blk k b hb
  rw [hr] at h1
  injection h1 with h1
  subst h1
  obtain ⟨_, h4⟩ := (h2 hm).rd i hi
  obtain ⟨u, h5, h6⟩ := ldA_ok hT ht (o := i * r.es) (off := off) h4 hvc
  exact Post.pure hM rfl (by simp [h5]) h6
theorem ld_ep (hT : TysOK P ty) (hM : Mem X H S m w) {t : TypeId} {ti : TI} (ht : ty t = some ti) {x : AV} {off : Nat} {v : Value} (hv : VR w S m (.ep x off) v) (hvc : (ldA ti x off).2) (vc : Prop) :
    Post X H S m w ⟨(ldA ti x off).1, [], vc⟩ ((do pure (.value (← Instr.loadAt t v)) : Sem Next).run P w) := by
  cases hv with
  | ep us hA h =>
    obtain ⟨u, h5, h6⟩ := ldA_ok hT ht (off := off) (fun j y hy => ⟨us j, (hA j (List.getElem?_eq_some_iff.1 hy).1).2, h j y hy⟩) hvc
    exact Post.pure hM rfl (by simp [h5]) h6
theorem run_storeAt_ok {t : TypeId} {ti : TI} (ht : TyOK P t ti) {b o : Nat} {v : Value} (hs : v.cells.size = ti.size) (h1 : ∀ u ∈ v.cells.toList, u.oneCell' = true)
    (hc : ∀ j, j < ti.size → (w.cell? ⟨b, o + j, none⟩).isSome = true) (hf : ∀ j, j < ti.size → w.frozen? ⟨b, o + j, none⟩ = false) :
    (Instr.storeAt t (.pointer (some ⟨b, o, none⟩)) v).run P w = .ok () (w.setCells b o v.cells.toList) := by
  obtain ⟨i, d, z, hi, _, hsz, _⟩ := ht.ok
  have hl : v.cells.toList.length = ti.size := by simpa using hs
  have := run_storeCells_cells (P := P) b o v.cells.toList 0 w (fun j hj => by simpa using hc j (by omega)) (fun j hj => by simpa using hf j (by omega)) h1
  simp only [Nat.add_zero] at this
  simp [Instr.storeAt, Instr.sureAddr, storeVar, sizeOf, typeInfo, hi, hs, hsz, this]
theorem st_ok (hT : TysOK P ty) (hM : Mem X H S m w) {t : TypeId} {ti : TI} (ht : ty t = some ti) {k i off : Nat} {v u : Value} {y : AV} (hv : VR w S m (.ptr k i off) v) (hu : VR w S m y u) {b : Blk} (hb : lk H k = some b) (hm : b.mode = 0) (hi : i < cN b.c)
    (hl : y.cl.length = ti.size) (h0 : 0 < ti.size) (ho : off + ti.size ≤ cE b.c) (hok : okc y = true) (hby : isBy b.c = true → byteOK (putX (cAt b.c i) off y.cl)) (vc : Prop) :
    Post X H S m w ⟨.any, [(k, ⟨setE b.c i (putX (cAt b.c i) off y.cl), 0, b.ln⟩)], vc⟩ ((do Instr.storeAt t v u; pure .skip : Sem Next).run P w) := by
  obtain ⟨r, hr, rfl⟩ := hv.ptr_inv
  obtain ⟨r', h1, h2⟩ := hM.blk k b hb
  rw [hr] at h1
  injection h1 with h1
  subst h1
  have hB := h2 (by omega)
  obtain ⟨c1, c2, c3⟩ := cells_of hu hok
  have hlen := hB.len
  have hes := hB.es
  obtain ⟨_, ⟨cur, T, q2, q3⟩, _⟩ := hB.row (by omega) (by omega)
  obtain ⟨hxl, hxr⟩ := hB.rd i hi
  have hvl : u.cells.toList.length = ti.size := by rw [Array.length_toList, c1, hl]
  have hin : i * r.es + off + ti.size ≤ r.cap * r.es := by
    have : (i + 1) * r.es ≤ r.cap * r.es := Nat.mul_le_mul_right _ (by omega)
    rw [Nat.add_mul] at this
    omega
  have hcell : ∀ j, j < ti.size → (w.cell? ⟨r.g, i * r.es + off + j, none⟩).isSome = true := by
    intro j hj
    have hlt : i * r.es + off + j < cur.size := by omega
    unfold World.cell?
    rw [q2]
    simp [hlt]
  have hfz : ∀ j, j < ti.size → w.frozen? ⟨r.g, i * r.es + off + j, none⟩ = false := by
    intro j hj
    unfold World.frozen?
    rw [q2]
    simp
  have hrun := run_storeAt_ok (P := P) (w := w) (hT _ _ ht) (b := r.g) (o := i * r.es + off) (v := u) (by rw [c1, hl]) c3 hcell hfz
  have hyone : ∀ z ∈ y.cl, z.one = true := fun z hz => List.all_eq_true.1 hok z hz
  have hyl : y.cl ≠ [] := fun e => by rw [e] at hl; simp at hl; omega
  have hcl := putX_cl (x := cAt b.c i) (off := off) (ys := y.cl) (by rw [hl, hxl]; omega) hyl hyone
  have hbyc : (∃ bs, b.c = .by_ bs) → byteOK (putX (cAt b.c i) off y.cl) := fun ⟨bs, e⟩ => hby (by rw [e]; rfl)
  obtain ⟨n1, n2⟩ := setE_N b.c i (putX (cAt b.c i) off y.cl)
  have hput := hM.put hb hr hm (c' := setE b.c i (putX (cAt b.c i) off y.cl)) (o := i * r.es + off) (vs := u.cells.toList) n1 n2 (fun e => by rw [e] at hvl; simp at hvl; omega) (by omega) (by rw [hvl]; exact hin) (fun p hp => ?_)
  · obtain ⟨hM', hadv⟩ := hput
    exact ⟨undef, _, S, m, .inr ⟨by simp [hrun], rfl⟩, hadv, hM', .any _⟩
  · rw [n1] at hp
    by_cases hpi : p = i
    · subst hpi
      rw [setE_eq hi hbyc]
      refine ⟨by rw [hcl]; simp; omega, fun j z hz => ?_⟩
      rw [hcl] at hz
      have hcase : ∀ (j : Nat), (off ≤ j ∧ j < off + ti.size) ∨ (j < off ∨ off + ti.size ≤ j) := fun j => by omega
      rcases hcase j with ⟨ha, hb'⟩ | hout
      · obtain ⟨d, rfl⟩ : ∃ d, j = off + d := ⟨j - off, by omega⟩
        have hd : d < y.cl.length := by omega
        have hz' : y.cl[d]? = some z := by
          rw [List.append_assoc, List.getElem?_append_right (by simp; omega), List.length_take, Nat.min_eq_left (by omega), Nat.add_sub_cancel_left, List.getElem?_append_left hd] at hz
          exact hz
        obtain ⟨uu, h7, h8⟩ := c2 d z hz'
        refine ⟨uu, ?_, h8⟩
        have hdl : d < u.cells.toList.length := by omega
        have := World.cell?_setCells_in r.g u.cells.toList (p * r.es + off) w (fun q hq => hcell q (by omega)) d hdl
        rw [← Nat.add_assoc, this]
        have h9 : u.cells.toList[d]? = some uu := by simpa using h7
        rw [List.getElem?_eq_getElem hdl] at h9
        exact h9
      · have hz' : (cAt b.c p).cl[j]? = some z := by
          rcases hout with hj | hj
          · rw [List.append_assoc, List.getElem?_append_left (by simp; omega), List.getElem?_take, if_pos hj] at hz
            exact hz
          · rw [List.getElem?_append_right (by simp; omega), List.getElem?_drop] at hz
            simp only [List.length_append, List.length_take] at hz
            rw [hl, Nat.min_eq_left (by omega), show off + ti.size + (j - (off + ti.size)) = j by omega] at hz
            exact hz
        obtain ⟨uu, h7, h8⟩ := hxr j z hz'
        refine ⟨uu, ?_, h8⟩
        rw [World.cell?_setCells_out r.g _ _ _ _ (fun _ _ => by simp only; omega)]
        exact h7
    · rw [setE_ne hpi]
      obtain ⟨h5, h6⟩ := hB.rd p hp
      refine ⟨h5, fun j z hz => ?_⟩
      obtain ⟨uu, h7, h8⟩ := h6 j z hz
      refine ⟨uu, ?_, h8⟩
      have hj : j < r.es := by rw [← h5]; exact (List.getElem?_eq_some_iff.1 hz).1
      rw [World.cell?_setCells_out r.g _ _ _ _ (fun _ _ => ?_)]
      · exact h7
      · simp only
        rcases Nat.lt_or_gt_of_ne hpi with hlt | hgt
        · left
          have : (p + 1) * r.es ≤ i * r.es := Nat.mul_le_mul_right _ hlt
          rw [Nat.add_mul] at this
          omega
        · right
          have : (i + 1) * r.es ≤ p * r.es := Nat.mul_le_mul_right _ hgt
          rw [Nat.add_mul] at this
          omega
end
end Go.TravelAbs
