import Derived.Test.YtjhiagelgleomaaAbsH
namespace Go.TravelAbs
open Go.RowKit Go.TravelBase
set_option linter.unusedVariables false
set_option linter.unusedSimpArgs false

section
variable {P : Program} {ty : Ty} {X : Cx} {H : List (Nat × Blk)} {S : CSet} {m : RMap} {w : World}
/-! ### Lists put together -/
theorem catC_N {a b : AV} (h : catOK a b) : cN (catC a b) = cN a + cN b ∧ cE (catC a b) = cE a := by
  unfold catOK at h
  split at h
  · simp [catC, cN, cE]
  · simp [catC, cN, cE]
  · simp [catC, cN, cE]
  · exact h.elim
theorem catC_lo {a b : AV} (h : catOK a b) {i : Nat} (hi : i < cN a) : cAt (catC a b) i = cAt a i := by
  unfold catOK at h
  split at h
  · simp only [cN] at hi
    simp only [catC, cAt, List.getD]
    rw [List.getElem?_append_left hi]
  · simp only [cN] at hi
    simp only [catC, cAt, List.getD]
    rw [List.getElem?_append_left hi]
  · rfl
  · exact h.elim
theorem catC_hi {a b : AV} (h : catOK a b) {i : Nat} (hi : i < cN b) : cAt (catC a b) (cN a + i) = cAt b i := by
  unfold catOK at h
  split at h
  · simp only [cN] at hi ⊢
    simp only [catC, cAt, List.getD]
    rw [List.getElem?_append_right (by omega), Nat.add_sub_cancel_left]
  · simp only [cN] at hi ⊢
    simp only [catC, cAt, List.getD]
    rw [List.getElem?_append_right (by omega), Nat.add_sub_cancel_left]
  · simp [cN] at hi
  · exact h.elim
theorem HA.cat {es : Nat} {a b : AV} {olds news : List Value} {zs : Array Value} (h : catOK a b) (ha : HA w S m es a olds.toArray) (hb : HA w S m es b news.toArray) (hl : olds.length = cN a * es) :
    HA w S m es (catC a b) ((olds ++ news).toArray ++ zs) := by
  intro i hi
  rw [(catC_N h).1] at hi
  rcases Nat.lt_or_ge i (cN a) with hlt | hge
  · rw [catC_lo h hlt]
    obtain ⟨h1, h2⟩ := ha i hlt
    refine ⟨h1, fun j y hy => ?_⟩
    obtain ⟨u, hu, hv⟩ := h2 j y hy
    have hj : j < es := by rw [← h1]; exact (List.getElem?_eq_some_iff.1 hy).1
    have hlt' : i * es + j < olds.length := by rw [hl]; exact row_mul hlt hj
    refine ⟨u, ?_, hv⟩
    rw [Array.getElem?_append_left (by simp; omega)]
    simp only [List.getElem?_toArray] at hu ⊢
    rw [List.getElem?_append_left hlt']
    exact hu
  · obtain ⟨d, rfl⟩ : ∃ d, i = cN a + d := ⟨i - cN a, by omega⟩
    rw [catC_hi h (by omega)]
    obtain ⟨h1, h2⟩ := hb d (by omega)
    refine ⟨h1, fun j y hy => ?_⟩
    obtain ⟨u, hu, hv⟩ := h2 j y hy
    refine ⟨u, ?_, hv⟩
    simp only [List.getElem?_toArray] at hu
    have hlt := (List.getElem?_eq_some_iff.1 hu).1
    rw [Array.getElem?_append_left (by simp; rw [Nat.add_mul]; omega)]
    simp only [List.getElem?_toArray]
    rw [List.getElem?_append_right (by rw [Nat.add_mul]; omega), hl, Nat.add_mul, show cN a * es + d * es + j - cN a * es = d * es + j by omega]
    exact hu
theorem emptyC_N (ti : TI) : cN (emptyC ti) = 0 := by unfold emptyC; split <;> rfl
theorem HA.nil {es : Nat} {c : AV} {cur : Array Value} (h : cN c = 0) : HA w S m es c cur := fun i hi => by omega
theorem drew_cell (b i : Nat) : w.drew.cell? ⟨b, i, none⟩ = w.cell? ⟨b, i, none⟩ := rfl
theorem Frm.drew (h : Frm X w) : Frm X w.drew := ⟨h.os, h.tape, h.output, h.size, h.block⟩
theorem VR.drew {x : AV} {v : Value} (h : VR w S m x v) : VR w.drew S m x v := VR.mono (w := w) (w' := w.drew) (fun _ _ hs => ⟨hs, rfl⟩) (fun _ _ q => q) h
theorem Mem.drew (h : Mem X H S m w) : Mem X H S m w.drew :=
  ⟨h.lm, h.frm.drew, h.s0, h.s1, h.slt, h.dom, fun k b hk => by
    obtain ⟨r, h1, h2⟩ := h.blk k b hk
    exact ⟨r, h1, fun hm => (h2 hm).keep (fun _ _ hs => ⟨hs, rfl⟩) (fun _ _ q => q) (fun _ _ => ⟨rfl, fun _ q => q⟩)⟩, h.inj⟩
theorem HA.drew {es : Nat} {c : AV} {cur : Array Value} (h : HA w S m es c cur) : HA w.drew S m es c cur := fun i hi => by
  obtain ⟨h1, h2⟩ := h i hi
  refine ⟨h1, fun j y hy => ?_⟩
  obtain ⟨u, hu, hv⟩ := h2 j y hy
  exact ⟨u, hu, hv.drew⟩
theorem grownCap_max {need old : Nat} {e : TypeId} (h : need ≤ maxLen) : need ≤ grownCap w need old e ∧ grownCap w need old e ≤ maxLen := by
  unfold grownCap Question.cut
  simp only
  have hp : 0 < 2 ^ 63 - need := by
    have : maxLen < 2 ^ 63 := by decide
    omega
  have h2 := Nat.mod_lt (w.tape w.drawn (.appendCap need old e)) hp
  have h3 : maxLen = 2 ^ 63 - 1 := by decide
  omega
theorem zeroCells_size (z : Array Value) (n : Nat) : (Builtin.zeroCells z n).size = n * z.size := by simp [Builtin.zeroCells]
theorem run_append_none (t tx ty e : TypeId) (i : TypeInfo) (ht : P.underlying t = some (.slice e)) (hi : P.info? e = some i) (base : Option Addr) (sLen sCap : Nat) (hle : sLen ≤ sCap) (x : Value) (hs : Src P i.size tx x 0 [] w) :
    (Builtin.append_ #[t, tx] ty #[.slice base sLen sCap, x]).run P w = .ok (.slice base sLen sCap) w := by
  rcases hs.kind with ⟨e', hk⟩ | hk <;> cases base <;> simp [Builtin.append_, run_underlying ht, run_underlying hk, sizeOf, typeInfo, hi, hs.len, hle, hs.cells, storeCells]
/-- append onto nil. -/
theorem append_nil_ok (hT : TysOK P ty) (hM : Mem X H S m w) {t u e e' : TypeId} {te : TI} (hu : P.underlying t = some (.slice e)) (hu' : P.underlying u = some (.slice e')) (hte : ty e = some te) {c : AV} {v : Value} (hc : LR w S m c v) {fr : Nat} (hfr : lk H fr = none)
    (hok : okL c) (hcat : catOK (emptyC te) c) (he : cN c = 0 ∨ cE c = te.size) (hb : cN c * te.bytes ≤ 140737488355328) (hmax : cN c ≤ maxLen) (hE : cE (emptyC te) = te.size) (hz : zOK te = true) (T : TypeId) (vc : Prop) :
    Post X H S m w ⟨.sl fr te.size 0 (cN c), [(fr, ⟨catC (emptyC te) c, 0, false⟩)], vc⟩ ((do pure (.value (← Builtin.append_ #[t, u] T #[.slice none 0 0, v])) : Sem Next).run P w) := by
  obtain ⟨i, d, z, hi, _, hs, hby, hzz, hcells, _⟩ := (hT _ _ hte).ok
  obtain ⟨n1, n2⟩ := catC_N hcat
  rw [emptyC_N, Nat.zero_add] at n1
  obtain ⟨news, hsrc, hha⟩ := hc.news (P := P) he hok hu'
  rcases Nat.eq_zero_or_pos (cN c) with h0 | hpos
  · rw [h0] at hsrc
    have hnil : news = [] := List.eq_nil_of_length_eq_zero (by rw [hsrc.newsLen]; simp)
    subst hnil
    obtain ⟨hM', hadv⟩ := hM.newE hfr (c := catC (emptyC te) c) (by omega)
    refine ⟨.slice none 0 0, _, S, _, .inl ?_, hadv, hM', ?_⟩
    · have hrun := run_append_none (P := P) t u T e i hu hi none 0 0 (Nat.le_refl _) v (by rw [hs]; exact hsrc)
      simp [hrun]
    · have hh : VR w S (mset m fr ⟨0, 0, cE (catC (emptyC te) c)⟩) (.sl fr te.size 0 0) (.slice none 0 (0 - 0)) := .sl (r := ⟨0, 0, cE (catC (emptyC te) c)⟩) (by simp [mset]) (by rw [n2]; exact hE) (Nat.le_refl _) (Nat.zero_le _) (fun h => by simp at h) (fun _ => rfl)
      show VR w S (mset m fr ⟨0, 0, cE (catC (emptyC te) c)⟩) (.sl fr te.size 0 (cN c)) (.slice none 0 0)
      rw [h0]
      exact hh
  · have hgrow := run_append_grow_src (P := P) w t u T e i z hu hi hzz none 0 0 [] (run_firstCells_none w.drew i.size 0 0 0) v (cN c) news (by rw [hs]; exact hsrc) (by omega) (by have : maxLen = 9223372036854775807 := rfl; omega)
      (by rw [Nat.zero_add, hby]; exact growslice_fits hpos hb)
    rw [Nat.zero_add] at hgrow
    obtain ⟨g1, g2⟩ := grownCap_max (w := w) (need := cN c) (old := 0) (e := e) hmax
    have hcat' := HA.cat (olds := []) (zs := Builtin.zeroCells z.cells (grownCap w (cN c) 0 e - cN c)) hcat (HA.nil (emptyC_N te)) hha.drew (by rw [emptyC_N]; simp)
    obtain ⟨z1, _, _, z4⟩ := zOK_iff hz
    have hzs : z.cells.size = te.size := by rw [← Array.length_toList, hcells, z1]
    have hnl : news.length = cN c * te.size := hsrc.newsLen
    have hsize : ((([] ++ news : List Value).toArray ++ Builtin.zeroCells z.cells (grownCap w (cN c) 0 e - cN c))).size = grownCap w (cN c) 0 e * te.size := by
      rw [Array.size_append, zeroCells_size, hzs]
      simp only [List.nil_append, List.size_toArray, hnl]
      rw [← Nat.add_mul]
      congr 1
      omega
    obtain ⟨hM', hadv⟩ := hM.drew.new hfr e (c := catC (emptyC te) c) (cap := grownCap w (cN c) 0 e) (es := te.size) hsize (by rw [n2]; exact hE) (by omega) g2 hcat'
    refine ⟨.slice (some ⟨w.heap.size, 0, none⟩) (cN c) (grownCap w (cN c) 0 e), _, S, _, .inl ?_, ⟨fun b o hs => (hadv.st b o hs), hadv.mp⟩, hM', ?_⟩
    · simp [hgrow]
    · have := VR.sl (w := w.drew.alloc (.cells ((([] ++ news : List Value).toArray ++ Builtin.zeroCells z.cells (grownCap w (cN c) 0 e - cN c))) e)) (S := S) (m := mset m fr ⟨w.heap.size, grownCap w (cN c) 0 e, te.size⟩) (k := fr) (es := te.size) (i := 0) (n := cN c) (r := ⟨w.heap.size, grownCap w (cN c) 0 e, te.size⟩) (A := some ⟨w.heap.size, 0, none⟩)
        (by simp [mset]) rfl (by simpa using g1) g2 (fun _ => by simp) (fun h => by cases h)
      exact this
/-- append onto a list of the call's own. -/
theorem append_sl_ok (hT : TysOK P ty) (hM : Mem X H S m w) {t u e e' : TypeId} {te : TI} (hu : P.underlying t = some (.slice e)) (hu' : P.underlying u = some (.slice e')) (hte : ty e = some te) {c : AV} {v vs : Value} (hc : LR w S m c v) {fr : Nat} (hfr : lk H fr = none)
    {k es n : Nat} (hvs : VR w S m (.sl k es 0 n) vs) {b : Blk} (hb : lk H k = some b)
    (hok : okL c) (hcat : catOK b.c c) (he : cN c = 0 ∨ cE c = te.size) (hby : (n + cN c) * te.bytes ≤ 140737488355328) (hmax : n + cN c ≤ maxLen) (hn : n = cN b.c) (hmd : b.mode = 0) (hln : b.ln = false) (hes : es = te.size) (hz : zOK te = true) (T : TypeId) (vc : Prop) :
    Post X H S m w ⟨.sl fr es 0 (n + cN c), [(fr, ⟨catC b.c c, 0, false⟩), (k, ⟨b.c, 3, false⟩)], vc⟩ ((do pure (.value (← Builtin.append_ #[t, u] T #[vs, v])) : Sem Next).run P w) := by
  obtain ⟨i, d, z, hi, _, hs, hbi, hzz, hcells, _⟩ := (hT _ _ hte).ok
  obtain ⟨n1, n2⟩ := catC_N hcat
  obtain ⟨news, hsrc, hha⟩ := hc.news (P := P) he hok hu'
  obtain ⟨z1, _, _, z4⟩ := zOK_iff hz
  have hzs : z.cells.size = te.size := by rw [← Array.length_toList, hcells, z1]
  have hnl : news.length = cN c * te.size := hsrc.newsLen
  obtain ⟨r, A, hr, hres, hcap, hcmax, hA, hA0, rfl⟩ := hvs.sl_inv
  obtain ⟨r', h1, h2⟩ := hM.blk k b hb
  rw [hr] at h1
  injection h1 with h1
  subst h1
  have hB := h2 (by omega)
  have hes' : r.es = te.size := by omega
  have hne : fr ≠ k := fun e => by rw [e, hb] at hfr; cases hfr
  have hM1 := hM.drop hb hr b.c
  have hfr1 : lk ((k, ⟨b.c, 3, false⟩) :: H) fr = none := by
    show (if fr = k then _ else lk H fr) = none
    rw [if_neg hne]
    exact hfr
  simp only [Nat.sub_zero, Nat.zero_add] at hcap hA0 hA ⊢
  have hm1 : ∀ j bj rj, lk ((k, ⟨b.c, 3, false⟩) :: H) j = some bj → m j = some rj → bj.mode ≤ 1 → 0 < rj.cap → j ≠ k ∧ lk H j = some bj := by
    intro j bj rj h3 h4 h5 h6
    simp only [lk] at h3
    split at h3
    · injection h3 with h3; subst h3; simp at h5
    · rename_i hne; exact ⟨hne, h3⟩
  rcases Nat.lt_or_ge r.cap (n + cN c) with hgrow | hroom
  · -- a new row
    have hold : ∃ olds : List Value, olds.length = cN b.c * te.size ∧ (Builtin.firstCells te.size n (.slice A n r.cap)).run P w.drew = .ok olds.toArray w.drew ∧ HA w S m te.size b.c olds.toArray := by
      rcases Nat.eq_zero_or_pos n with h0 | hpos
      · subst h0
        refine ⟨[], by rw [← hn]; simp, ?_, HA.nil hn.symm⟩
        cases A with
        | none => exact run_firstCells_none w.drew te.size 0 0 r.cap
        | some a => exact run_firstCells_some w.drew te.size 0 a 0 r.cap [] (by simp) (fun j v hv => by simp at hv)
      · have hAe := hA (by omega)
        obtain ⟨_, ⟨cur, T', q2, q3⟩, _⟩ := hB.row (by omega) (by omega)
        have hle : cN b.c * te.size ≤ cur.size := by rw [q3, hes']; exact Nat.mul_le_mul_right _ hB.len
        refine ⟨cur.toList.take (cN b.c * te.size), by simp; omega, ?_, fun p hp => ?_⟩
        · rw [hAe, Nat.zero_mul]
          refine run_firstCells_some w.drew te.size n _ n r.cap _ (by simp; rw [hn]; omega) fun j u hu => ?_
          rw [add_mid, Nat.zero_add, drew_cell]
          unfold World.cell?
          rw [q2]
          rw [List.getElem?_take] at hu
          split at hu
          · simpa using hu
          · cases hu
        · obtain ⟨h5, h6⟩ := hB.rd p hp
          rw [hes'] at h5
          refine ⟨h5, fun j y hy => ?_⟩
          obtain ⟨u, h7, h8⟩ := h6 j y hy
          refine ⟨u, ?_, h8⟩
          have hj : j < te.size := by rw [← h5]; exact (List.getElem?_eq_some_iff.1 hy).1
          have hlt := row_mul hp hj
          unfold World.cell? at h7
          rw [q2, hes'] at h7
          simp only [List.getElem?_toArray]
          rw [List.getElem?_take, if_pos hlt]
          simpa using h7
    obtain ⟨olds, ho1, ho2, ho3⟩ := hold
    have hrun := run_append_grow_src (P := P) w t u T e i z hu hi hzz A n r.cap olds (by rw [hs]; exact ho2) v (cN c) news (by rw [hs]; exact hsrc) hgrow (by have : maxLen = 9223372036854775807 := rfl; omega) (by rw [hbi]; exact growslice_fits hgrow hby)
    obtain ⟨g1, g2⟩ := grownCap_max (w := w) (need := n + cN c) (old := r.cap) (e := e) hmax
    have hcat' := HA.cat (zs := Builtin.zeroCells z.cells (grownCap w (n + cN c) r.cap e - (n + cN c))) hcat ho3.drew hha.drew ho1
    have hsize : ((olds ++ news).toArray ++ Builtin.zeroCells z.cells (grownCap w (n + cN c) r.cap e - (n + cN c))).size = grownCap w (n + cN c) r.cap e * te.size := by
      rw [Array.size_append, zeroCells_size, hzs]
      simp only [List.size_toArray, List.length_append, hnl, ho1, ← hn]
      rw [← Nat.add_mul, ← Nat.add_mul]
      congr 1
      omega
    obtain ⟨hM', hadv⟩ := hM1.drew.new hfr1 e (c := catC b.c c) (cap := grownCap w (n + cN c) r.cap e) (es := te.size) hsize (by rw [n2, ← hB.es, hes']) (by omega) g2 hcat'
    refine ⟨.slice (some ⟨w.heap.size, 0, none⟩) (n + cN c) (grownCap w (n + cN c) r.cap e), _, S, _, .inl ?_, ⟨fun b o hs => (hadv.st b o hs), hadv.mp⟩, hM', ?_⟩
    · simp [hrun]
    · exact VR.sl (k := fr) (es := es) (i := 0) (n := n + cN c) (r := ⟨w.heap.size, grownCap w (n + cN c) r.cap e, te.size⟩) (A := some ⟨w.heap.size, 0, none⟩) (by simp [mset]) hes.symm (by simpa using g1) g2 (fun _ => by simp) (fun h => by cases h)
  · -- there is room
    have hbr : ∀ {w' : World}, Adv S m w S (mset m fr r) w' → w'.heap.size = w.heap.size → Frm X w' → (∀ g, g ≠ r.g ∨ cN c = 0 → w'.heap[g]? = w.heap[g]?) → BR w' S (mset m fr r) X.own ⟨catC b.c c, 0, false⟩ r → Mem X ((fr, ⟨catC b.c c, 0, false⟩) :: (k, ⟨b.c, 3, false⟩) :: H) S (mset m fr r) w' := by
      intro w' hadv hsz hfrm hheap hbr
      refine hM1.upd fr _ r (.inl (hM1.dom fr hfr1)) hadv.st hfrm hM1.s1 (fun b o hb => by rw [hsz]; exact hM1.slt b o hb) (fun j bj rj hj h3 h4 h5 h6 => ?_) (fun _ => hbr)
      obtain ⟨q1, q2⟩ := hm1 j bj rj h3 h4 h5 h6
      rcases Nat.eq_zero_or_pos r.cap with hr0 | hr0
      · exact ⟨hheap _ (.inr (by omega)), fun o q => q, fun _ h7 => by omega⟩
      · have hg := hM.apart hb hr (by omega) hr0 q2 h4 h5 h6 q1
        exact ⟨hheap _ (.inl hg), fun o q => q, fun _ _ => hg⟩
    have hsl : ∀ {w' : World}, VR w' S (mset m fr r) (.sl fr es 0 (n + cN c)) (.slice A (n + cN c) (r.cap - 0)) :=
      .sl (r := r) (by simp [mset]) hres (by omega) hcmax (fun h => by simpa using hA h) (fun h => by simpa using hA0 h)
    have hle := mset_le (k := fr) (r := r) (.inl (hM1.dom fr hfr1))
    rcases Nat.eq_zero_or_pos (cN c) with h0 | hpos
    · have hnil : news = [] := List.eq_nil_of_length_eq_zero (by rw [hnl, h0]; simp)
      subst hnil
      rw [h0] at hsrc
      have hrun := run_append_none (P := P) t u T e i hu hi A n r.cap (by omega) v (by rw [hs]; exact hsrc)
      have hadv : Adv S m w S (mset m fr r) w := ⟨fun b o h => ⟨h, rfl⟩, hle⟩
      have hcN : cN (catC b.c c) = cN b.c := by omega
      have hM' := hbr hadv rfl hM.frm (fun _ _ => rfl) ⟨hB.es.trans n2.symm, by show cN _ ≤ _; rw [hcN]; exact hB.len, hB.max, fun p hp => by
        have hp' : p < cN b.c := by have : p < cN (catC b.c c) := hp; omega
        show (cAt (catC b.c c) p).cl.length = r.es ∧ _
        rw [catC_lo hcat hp']
        obtain ⟨h5, h6⟩ := hB.rd p hp'
        refine ⟨h5, fun j y hy => ?_⟩
        obtain ⟨u, h7, h8⟩ := h6 j y hy
        exact ⟨u, h7, h8.adv hadv⟩, fun h => by simp at h, fun _ hc => by
          obtain ⟨q1, q2, q3⟩ := hB.row (by omega) hc
          rw [hln] at q1
          exact ⟨q1, q2, fun o _ => q3 o (.inl hmd)⟩⟩
      refine ⟨.slice A n r.cap, w, S, _, .inl (by simp [hrun]), hadv, hM', ?_⟩
      have := hsl (w' := w)
      simp only [h0, Nat.add_zero, Nat.sub_zero] at this ⊢
      exact this
    · have hc0 : 0 < r.cap := by omega
      have hAe := hA hc0
      rw [Nat.zero_mul] at hAe
      subst hAe
      obtain ⟨q1, ⟨cur, T', q2, q3⟩, q4⟩ := hB.row (by omega) hc0
      have hin : n * te.size + news.length ≤ cur.size := by
        rw [hnl, ← Nat.add_mul, q3, hes']
        exact Nat.mul_le_mul_right _ hroom
      have hcell : ∀ j, j < news.length → (w.cell? ⟨r.g, 0 + n * i.size + j, none⟩).isSome = true := by
        intro j hj
        have hlt : n * te.size + j < cur.size := by omega
        unfold World.cell?
        rw [q2, hs, Nat.zero_add]
        simp [hlt]
      have hfz : ∀ j, j < news.length → w.frozen? ⟨r.g, 0 + n * i.size + j, none⟩ = false := by
        intro j hj
        unfold World.frozen?
        rw [q2]
        simp
      have hrun := run_append_room_src (P := P) w t u T e i hu hi r.g 0 n r.cap v (cN c) news (by rw [hs]; exact hsrc) hroom hcell hfz
      rw [hs, Nat.zero_add] at hrun hcell hfz
      have hst : ∀ b' o', S b' o' → S b' o' ∧ (w.setCells r.g (n * te.size) news).cell? ⟨b', o', none⟩ = w.cell? ⟨b', o', none⟩ := by
        intro b' o' hb
        refine ⟨hb, cell_of_heap (setCells_heap r.g news _ w b' (fun e => ?_)) o'⟩
        subst e
        exact q4 o' (.inl hmd) hb
      have hadv : Adv S m w S (mset m fr r) (w.setCells r.g (n * te.size) news) := ⟨hst, hle⟩
      obtain ⟨_, _, _, hsz⟩ := setCells_rest r.g news (n * te.size) w
      obtain ⟨cur', q5, q6⟩ := setCells_size r.g 0 news (n * te.size) w r.g cur T' _ q2
      have hM' := hbr hadv hsz (hM.frm.setCells (own_cases q1) _ _) (fun g hg => by
          rcases hg with hg | hg
          · exact setCells_heap r.g news _ w g hg
          · omega) ⟨hB.es.trans n2.symm, by show cN _ ≤ _; rw [n1]; omega, hB.max, fun p hp => by
        have hp' : p < cN b.c + cN c := by have : p < cN (catC b.c c) := hp; omega
        show (cAt (catC b.c c) p).cl.length = r.es ∧ _
        rcases Nat.lt_or_ge p (cN b.c) with hlt | hge
        · rw [catC_lo hcat hlt]
          obtain ⟨h5, h6⟩ := hB.rd p hlt
          refine ⟨h5, fun j y hy => ?_⟩
          obtain ⟨u, h7, h8⟩ := h6 j y hy
          refine ⟨u, ?_, h8.adv hadv⟩
          have hj : j < r.es := by rw [← h5]; exact (List.getElem?_eq_some_iff.1 hy).1
          have := row_mul hlt hj
          rw [World.cell?_setCells_out r.g _ _ _ _ (fun _ _ => .inl (by simp only; rw [hn, ← hes']; exact this))]
          exact h7
        · obtain ⟨d, rfl⟩ : ∃ d, p = cN b.c + d := ⟨p - cN b.c, by omega⟩
          rw [catC_hi hcat (by omega)]
          obtain ⟨h5, h6⟩ := hha d (by omega)
          rw [hes']
          refine ⟨h5, fun j y hy => ?_⟩
          obtain ⟨u, h7, h8⟩ := h6 j y hy
          refine ⟨u, ?_, h8.adv hadv⟩
          simp only [List.getElem?_toArray] at h7
          obtain ⟨hlt, h9⟩ := List.getElem?_eq_some_iff.1 h7
          have := World.cell?_setCells_in r.g news (n * te.size) w hcell (d * te.size + j) hlt
          rw [Nat.add_mul, ← hn, Nat.add_assoc, this, h9], fun h => by simp at h, fun _ hc => by
          rw [hln] at q1
          exact ⟨q1, ⟨cur', T', q5, by rw [q6]; exact q3⟩, fun o _ => q4 o (.inl hmd)⟩⟩
      refine ⟨_, _, S, _, .inl (by simp [hrun]; rfl), hadv, hM', ?_⟩
      exact hsl
end
end Go.TravelAbs
