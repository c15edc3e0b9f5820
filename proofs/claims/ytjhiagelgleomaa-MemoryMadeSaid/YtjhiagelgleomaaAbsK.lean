import Derived.Test.YtjhiagelgleomaaAbsJ
namespace Go.TravelAbs
open Go.RowKit Go.TravelBase
set_option linter.unusedVariables false
set_option linter.unusedSimpArgs false

section
variable {P : Program} {ty : Ty} {X : Cx} {H : List (Nat × Blk)} {S : CSet} {m : RMap} {w : World}
theorem zero_pair {z : Value} {zero : List Value} (hcells : z.cells.toList = zero) : z.cells.size = (zero.map AV.lit).length ∧ ∀ (j : Nat) (x : AV) (u : Value), (zero.map AV.lit)[j]? = some x → z.cells[j]? = some u → VR w S m x u := by
  subst hcells
  refine ⟨by simp, fun j x u hx hu => ?_⟩
  rw [List.getElem?_map] at hx
  obtain ⟨y, h1, rfl⟩ := Option.map_eq_some_iff.1 hx
  have : y = u := by
    have h2 : z.cells.toList[j]? = some u := by simpa using hu
    rw [h1] at h2
    injection h2
  subst this
  exact .lit _
theorem parts_list (parts : Array (Nat × Operand)) (ρ : Operand → Value) : (parts.map fun (i, x) => (i, ρ x)).toList = parts.toList.map fun p => (p.1, ρ p.2) := by
  rw [Array.toList_map]
theorem run_sizeOf_raw {t : TypeId} {i : TypeInfo} (h : P.info? t = some i) : (sizeOf t).run P w = .ok i.size w := by
  simp [sizeOf, typeInfo, h]
theorem run_mapM_places (w : World) : ∀ (l : List Field), (∀ f ∈ l, ∃ i, P.info? f.type = some i) → (l.mapM fun f => (Prod.mk f.offset <$> sizeOf f.type : Sem (Nat × Nat))).run P w = .ok (l.map fun f => (f.offset, ((P.info? f.type).map (·.size)).getD 0)) w
  | [], _ => by simp
  | f :: l, h => by
    obtain ⟨i, hi⟩ := h f (by simp)
    have ih := run_mapM_places w l (fun g hg => h g (by simp [hg]))
    rw [List.mapM_cons]
    simp [run_sizeOf_raw hi, ih, hi]
theorem build_struct_ok (hT : TysOK P ty) (hM : Mem X H S m w) {t : TypeId} {fs : List (Nat × Nat × Bool)} {sz by' : Nat} {zero : List Value} (ht : ty t = some ⟨.struct fs, sz, by', zero⟩) {g : Operand → AV} {ρ : Operand → Value} (hg : ∀ y, VR w S m (g y) (ρ y)) {parts : Array (Nat × Operand)}
    (hc : ∀ p ∈ parts.toList, cnd (g p.2)) (hok : fillOK fs zero.length (parts.toList.map fun p => (p.1, stp (g p.2)))) (hfs : fs.all (fun x => x.2.1 != 0) = true) (vc : Prop) :
    Post X H S m w ⟨.agg (fillA fs (zero.map .lit) (parts.toList.map fun p => (p.1, stp (g p.2)))), [], vc⟩ ((do pure (.value (← Instr.build t (parts.map fun (i, x) => (i, ρ x)))) : Sem Next).run P w) := by
  obtain ⟨i, d, z, hi, hu, hs, hb, hzz, hcells, fields, rfl, hk⟩ := (hT _ _ ht).ok
  simp only at hcells
  obtain ⟨z1, z2⟩ := zero_pair (w := w) (S := S) (m := m) hcells
  have hinfo : ∀ f ∈ fields.toList, fsz P f.type ≠ 0 := by
    intro f hf
    obtain ⟨j, hj, e⟩ := List.getElem_of_mem hf
    have h1 : fs[j]? = some (f.offset, fsz P f.type, rowB (P.underlying f.type)) := by
      rw [← hk]
      simp only [fieldsB, List.getElem?_map, List.getElem?_eq_getElem hj, Option.map_some]
      rw [e]
    have := List.all_eq_true.1 hfs _ (List.mem_of_getElem? h1)
    simpa using this
  have hmap : (fields.mapM fun f => (Prod.mk f.offset <$> sizeOf f.type : Sem (Nat × Nat))).run P w = .ok (fields.toList.map fun f => (f.offset, ((P.info? f.type).map (·.size)).getD 0)).toArray w := by
    have := run_mapM_places (P := P) w fields.toList (fun f hf => by obtain ⟨⟨i, h, _⟩, _⟩ := size_of_getD (hinfo f hf); exact ⟨i, h⟩)
    rw [Array.mapM_eq_mapM_toList]
    simp [this]
  obtain ⟨cur', q1, q2, q3, q4⟩ := fill_ok fs (fun k => ((fields.toList.map fun f => (f.offset, ((P.info? f.type).map (·.size)).getD 0)).toArray)[k]?) (fun k x hx => by
    rw [← hk] at hx
    simp only [fieldsB, List.getElem?_map] at hx
    obtain ⟨f, h1, rfl⟩ := Option.map_eq_some_iff.1 hx
    have hf := hinfo f (List.mem_of_getElem? h1)
    have e : fsz P f.type = ((P.info? f.type).map (·.size)).getD 0 := by
      unfold fsz at hf ⊢
      split
      · rfl
      · rename_i h; rw [if_neg h] at hf; exact absurd rfl hf
    simp only [List.getElem?_toArray, List.getElem?_map, h1, e]
    rfl) ρ g hg parts.toList (zero.map .lit) z.cells z1 z2 hc (by rw [List.length_map]; exact hok)
  refine Post.pure hM rfl ?_ (.agg (by rw [q2, q3]; exact z1) q4) (v := .agg cur')
  have e3 := parts_list parts ρ
  simp only [Sem.run_bind, Instr.build, zeroValue, typeInfo]
  simp [hi, hzz, run_underlying hu, hmap]
  simp at q1
  simp [q1]
theorem fillA_full (fs : List (Nat × Nat × Bool)) (sz : Nat) (hfs : ∀ i, i < fs.length → (fs.getD i (0, 0, false)).1 = i * sz) :
    ∀ (ps : List (Nat × AV)) (a : Nat) (pre rest : List AV), ps.map (·.1) = List.range' a ps.length → a + ps.length ≤ fs.length → pre.length = a * sz → rest.length = ps.length * sz → (∀ p ∈ ps, p.2.cl.length = sz) →
      fillA fs (pre ++ rest) ps = pre ++ ps.flatMap (fun p => p.2.cl)
  | [], a, pre, rest, _, _, _, hr, _ => by
    have : rest = [] := List.eq_nil_of_length_eq_zero (by simpa using hr)
    simp [fillA, this]
  | p :: ps, a, pre, rest, hp, ha, hpre, hr, hl => by
    simp only [List.map_cons, List.length_cons, List.range'_succ, List.cons.injEq] at hp
    simp only [List.length_cons] at ha hr
    have hpl := hl p (by simp)
    have ho := hfs p.1 (by omega)
    have e : putL (pre ++ rest) (fs.getD p.1 (0, 0, false)).1 p.2.cl = (pre ++ p.2.cl) ++ rest.drop sz := by
      rw [ho, hp.1]
      unfold putL
      rw [List.take_append_of_le_length (by omega), List.take_of_length_le (by omega), hpl, ← hpre, List.drop_length_add_append]
    show fillA fs (putL (pre ++ rest) (fs.getD p.1 (0, 0, false)).1 p.2.cl) ps = _
    rw [e, fillA_full fs sz hfs ps (a + 1) (pre ++ p.2.cl) (rest.drop sz) hp.2 (by omega) (by simp [hpre, hpl, Nat.add_mul]) (by simp [hr, Nat.add_mul]) (fun q hq => hl q (by simp [hq]))]
    simp
theorem flat_at (sz : Nat) : ∀ (ys : List AV), (∀ y ∈ ys, y.cl.length = sz) → ∀ (i j : Nat) (y z : AV), ys[i]? = some y → y.cl[j]? = some z → (ys.flatMap AV.cl)[i * sz + j]? = some z
  | [], _, i, j, y, z, h, _ => by simp at h
  | x :: ys, hl, 0, j, y, z, h, hz => by
    simp only [List.getElem?_cons_zero, Option.some.injEq] at h
    subst h
    rw [List.flatMap_cons, Nat.zero_mul, Nat.zero_add, List.getElem?_append_left (List.getElem?_eq_some_iff.1 hz).1]
    exact hz
  | x :: ys, hl, i + 1, j, y, z, h, hz => by
    have hx := hl x (by simp)
    rw [List.flatMap_cons, Nat.add_mul, List.getElem?_append_right (by rw [hx]; omega), hx, show i * sz + 1 * sz + j - sz = i * sz + j by omega]
    exact flat_at sz ys (fun y hy => hl y (by simp [hy])) i j y z (by simpa using h) hz
theorem buildSlice_ok (hT : TysOK P ty) (hM : Mem X H S m w) {t e : TypeId} {te : TI} (hu : P.underlying t = some (.slice e)) (hte : ty e = some te) {fr : Nat} (hfr : lk H fr = none) {g : Operand → AV} {ρ : Operand → Value} (hg : ∀ y, VR w S m (g y) (ρ y)) {parts : Array (Nat × Operand)} {len : Nat}
    (hc : ∀ p ∈ parts.toList, cnd (g p.2)) (hp : parts.toList.map (·.1) = List.range len) (h0 : 0 < len) (hs0 : 0 < te.size) (hsm : len * te.size ≤ 2 ^ 24) (hok : mkOK te (parts.toList.map fun p => stp (g p.2))) (hu8 : isU8 te = true → te.size = 1) (vc : Prop) :
    Post X H S m w ⟨.sl fr te.size 0 len, [(fr, ⟨mkC te (parts.toList.map fun p => stp (g p.2)), 0, false⟩)], vc⟩ ((do pure (.value (← Instr.buildSlice t len (parts.map fun (i, x) => (i, ρ x)))) : Sem Next).run P w) := by
  obtain ⟨i, d, z, hi, _, hs, hb, hzz, hcells, hk⟩ := (hT _ _ hte).ok
  have hlenp : parts.toList.length = len := by
    have := congrArg List.length hp
    simpa using this
  let fs : List (Nat × Nat × Bool) := (List.range len).map fun i => (i * te.size, te.size, false)
  have hfsl : fs.length = len := by simp [fs]
  have hfsat : ∀ i, i < len → fs.getD i (0, 0, false) = (i * te.size, te.size, false) := by
    intro i hi
    simp [fs, List.getD, hi]
  let cur : Array Value := (Array.range (len * i.size)).map (z.cells[· % z.cells.size]!)
  let ps := parts.toList.map fun p => (p.1, stp (g p.2))
  have hps1 : ps.map (·.1) = List.range len := by rw [← hp]; simp [ps]
  have hlt : ∀ p ∈ parts.toList, p.1 < len := by
    intro p hpm
    have : p.1 ∈ parts.toList.map (·.1) := List.mem_map.2 ⟨p, hpm, rfl⟩
    rw [hp] at this
    simpa using this
  have hmem : ∀ p ∈ parts.toList, stp (g p.2) ∈ parts.toList.map fun p => stp (g p.2) := fun p hpm => List.mem_map.2 ⟨p, hpm, rfl⟩
  obtain ⟨cur', q1, q2, q3, q4⟩ := fill_ok (w := w) (S := S) (m := m) fs (fun i => some (i * te.size, te.size)) (fun k x hx => by
    simp only [fs, List.getElem?_map] at hx
    obtain ⟨y, h1, rfl⟩ := Option.map_eq_some_iff.1 hx
    have hk : k < len := by have := (List.getElem?_eq_some_iff.1 h1).1; simpa using this
    rw [List.getElem?_range hk] at h1
    injection h1 with h1
    subst h1
    rfl) ρ g hg parts.toList (List.replicate (len * te.size) .any) cur (by simp [cur, hs]) (fun j x u hx _ => by
      obtain rfl := List.eq_of_mem_replicate (List.mem_of_getElem? hx)
      exact .any _) hc (fun x hx => by
      obtain ⟨p, hpm, rfl⟩ := List.mem_map.1 hx
      obtain ⟨o1, o2⟩ := hok.1 _ (hmem p hpm)
      have hl := hlt p hpm
      rw [hfsat p.1 hl]
      refine ⟨by rw [hfsl]; exact hl, o1, o2, ?_, by simp only; omega⟩
      simp only [List.length_replicate]
      have : (p.1 + 1) * te.size ≤ len * te.size := Nat.mul_le_mul_right _ hl
      rw [Nat.add_mul] at this
      omega)
  have hfull := fillA_full fs te.size (fun i hi => by rw [hfsat i (by omega)]) ps 0 [] (List.replicate (len * te.size) .any) (by rw [hps1]; simp [ps, hlenp, List.range_eq_range']) (by simp [ps, hlenp, hfsl]) (by simp) (by simp [ps, hlenp]) (fun p hpm => by
    obtain ⟨q, hq, rfl⟩ := List.mem_map.1 hpm
    exact (hok.1 _ (hmem q hq)).2)
  simp only [List.nil_append] at hfull
  change ∀ (j : Nat) (x : AV) (u : Value), (fillA fs (List.replicate (len * te.size) .any) ps)[j]? = some x → cur'[j]? = some u → VR w S m x u at q4
  rw [hfull] at q4
  have hflat : ps.flatMap (fun p => p.2.cl) = (parts.toList.map fun p => stp (g p.2)).flatMap AV.cl := by simp [ps, List.flatMap_map]
  rw [hflat] at q4
  have hcs : cur'.size = len * te.size := by rw [q2]; simp [cur, hs]
  have hha : HA w S m te.size (mkC te (parts.toList.map fun p => stp (g p.2))) cur' := by
    intro p hpn
    rw [mkC_N] at hpn
    rw [mkC_at hok hpn]
    have hx := getD_of_lt (d := AV.any) hpn
    obtain ⟨o1, o2⟩ := hok.1 _ (List.mem_of_getElem? hx)
    refine ⟨o2, fun j y hy => ?_⟩
    have hj : j < te.size := by rw [← o2]; exact (List.getElem?_eq_some_iff.1 hy).1
    have hat := flat_at te.size _ (fun y hy => (hok.1 y hy).2) p j _ y hx hy
    have hlt : p * te.size + j < cur'.size := by
      rw [hcs]
      simp only [List.length_map, hlenp] at hpn
      exact row_mul hpn hj
    exact ⟨cur'[p * te.size + j], Array.getElem?_eq_getElem hlt, q4 _ y _ hat (Array.getElem?_eq_getElem hlt)⟩
  obtain ⟨hM', hadv⟩ := hM.new hfr e (cap := len) (es := te.size) hcs (mkC_E hok hu8) (by rw [mkC_N]; simp; rw [← hlenp]; simp) (by
    have : len ≤ len * te.size := Nat.le_mul_of_pos_right _ hs0
    have h2 : maxLen = 9223372036854775807 := rfl
    omega) hha
  refine ⟨.slice (some ⟨w.heap.size, 0, none⟩) len len, _, S, _, .inl ?_, hadv, hM', ?_⟩
  · have hne : ¬ (len * te.size = 0) := by have := Nat.mul_pos h0 hs0; omega
    have hno : ¬ (16777216 < len * te.size) := by omega
    have e1 : Instr.fill (fun i => some (i * te.size, te.size)) ((Array.range (len * te.size)).map (z.cells[· % z.cells.size]!)) (parts.toList.map fun p => (p.1, ρ p.2)) = some cur' := by
      have : cur = (Array.range (len * te.size)).map (z.cells[· % z.cells.size]!) := by simp only [cur, hs]
      rw [← this]
      exact q1
    simp [Instr.buildSlice, run_underlying hu, run_sizeOf_ok (hT _ _ hte), zeroValue, typeInfo, hi, hzz, hne, hno, newRow]
    simp [e1]
  · exact .sl (k := fr) (es := te.size) (i := 0) (n := len) (r := ⟨w.heap.size, len, te.size⟩) (A := some ⟨w.heap.size, 0, none⟩) (by simp [mset]) rfl (by simp) (by
      have : len ≤ len * te.size := Nat.le_mul_of_pos_right _ hs0
      have h2 : maxLen = 9223372036854775807 := rfl
      show len ≤ _
      omega) (fun _ => by simp) (fun h => by cases h)
theorem build_array_ok (hT : TysOK P ty) (hM : Mem X H S m w) {t e n : TypeId} {te : TI} {sz by' : Nat} {zero : List Value} (ht : ty t = some ⟨.array n e, sz, by', zero⟩) (hte : ty e = some te) {g : Operand → AV} {ρ : Operand → Value} (hg : ∀ y, VR w S m (g y) (ρ y)) {parts : Array (Nat × Operand)}
    (hc : ∀ p ∈ parts.toList, cnd (g p.2)) (hok : fillOK ((List.range n).map fun i => (i * te.size, te.size, false)) zero.length (parts.toList.map fun p => (p.1, stp (g p.2)))) (vc : Prop) :
    Post X H S m w ⟨.agg (fillA ((List.range n).map fun i => (i * te.size, te.size, false)) (zero.map .lit) (parts.toList.map fun p => (p.1, stp (g p.2)))), [], vc⟩ ((do pure (.value (← Instr.build t (parts.map fun (i, x) => (i, ρ x)))) : Sem Next).run P w) := by
  obtain ⟨i, d, z, hi, _, hs, hb, hzz, hcells, hk⟩ := (hT _ _ ht).ok
  have hu := und_array (hT _ _ ht)
  simp only at hcells
  obtain ⟨z1, z2⟩ := zero_pair (w := w) (S := S) (m := m) hcells
  obtain ⟨cur', q1, q2, q3, q4⟩ := fill_ok (w := w) (S := S) (m := m) ((List.range n).map fun i => (i * te.size, te.size, false)) (fun i => some (i * te.size, te.size)) (fun k x hx => by
    simp only [List.getElem?_map] at hx
    obtain ⟨y, h1, rfl⟩ := Option.map_eq_some_iff.1 hx
    have hk : k < n := by have := (List.getElem?_eq_some_iff.1 h1).1; simpa using this
    rw [List.getElem?_range hk] at h1
    injection h1 with h1
    subst h1
    rfl) ρ g hg parts.toList (zero.map .lit) z.cells z1 z2 hc (by rw [List.length_map]; exact hok)
  refine Post.pure hM rfl ?_ (.agg (by rw [q2, q3]; exact z1) q4) (v := .agg cur')
  simp [Instr.build, zeroValue, typeInfo, hi, hzz, run_underlying hu, run_sizeOf_ok (hT _ _ hte), q1]
theorem emp_ok (hT : TysOK P ty) (hM : Mem X H S m w) {t e : TypeId} {te : TI} (hu : P.underlying t = some (.slice e)) (hte : ty e = some te) {fr : Nat} (hfr : lk H fr = none) {c : AV} {v : Value} (hc : LR w S m c v) (kh km : IntKind) (vc : Prop) :
    Post X H S m w ⟨.sl fr (cE (emptyC te)) 0 0, [(fr, ⟨emptyC te, 0, false⟩)], vc⟩ ((do pure (.value (← Instr.sliceAt t v none (some (.int kh 0)) (some (.int km 0)))) : Sem Next).run P w) := by
  obtain ⟨A, n, cap, rfl, _, _, _⟩ := hc
  obtain ⟨hM', hadv⟩ := hM.newE hfr (c := emptyC te) (emptyC_N te)
  refine ⟨.slice A 0 0, _, S, _, .inl ?_, hadv, hM', ?_⟩
  · simp [Instr.sliceAt, Instr.slice, run_underlying hu, Instr.sliceBounds, Instr.sliceBound, asIntOf, run_sizeOf_ok (hT _ _ hte)]
  · exact .sl (k := fr) (es := cE (emptyC te)) (i := 0) (n := 0) (r := ⟨0, 0, cE (emptyC te)⟩) (by simp [mset]) rfl (Nat.le_refl _) (Nat.zero_le _) (fun h => absurd h (by simp)) (fun _ => rfl)
theorem len_ok (hT : TysOK P ty) (hM : Mem X H S m w) {t : TypeId} {ti : TI} (ht : ty t = some ti) {x : AV} {v : Value} (hv : VR w S m x v) (n : Nat)
    (hn : (∃ e, ti.kind = .slice e ∧ ((∃ bs, x = .by_ bs ∧ bs.length = n) ∨ (∃ es xs, x = .li es xs ∧ xs.length = n) ∨ (∃ k es i, x = .sl k es i n) ∨ (x = .lit (.slice none 0 0) ∧ n = 0))) ∨ (ti.kind = .str ∧ ∃ s, x = .lit (.string s) ∧ s.size = n) ∨ (∃ e, ti.kind = .array n e)) (T : TypeId) (vc : Prop) :
    Post X H S m w ⟨.lit (.int .i64 n), [], vc⟩ ((do pure (.value (← Builtin.len_ #[t] T #[v])) : Sem Next).run P w) := by
  obtain ⟨i, d, z, hi, hu, hs, hb, hzz, hcells, hk⟩ := (hT _ _ ht).ok
  rcases hn with ⟨e, hke, hx⟩ | ⟨hke, s, rfl, rfl⟩ | ⟨e, hke⟩
  · rw [hke] at hk
    simp only [KOK] at hk
    subst hk
    have hA : ∃ A c, v = .slice A n c := by
      rcases hx with ⟨bs, rfl, hl⟩ | ⟨es, xs, rfl, hl⟩ | ⟨k, es, i, rfl⟩ | ⟨rfl, rfl⟩
      · cases hv with | by_ h1 => exact ⟨_, _, by rw [← hl, h1]⟩
      · cases hv with | li us h1 => exact ⟨_, _, by rw [← hl, h1]⟩
      · obtain ⟨r, A, _, _, _, _, _, _, rfl⟩ := hv.sl_inv
        exact ⟨_, _, rfl⟩
      · rw [hv.lit_inv]
        exact ⟨_, _, rfl⟩
    obtain ⟨A, c, rfl⟩ := hA
    exact Post.pure hM rfl (by simp [Builtin.len_, run_underlying hu, goInt]) (.lit _)
  · rw [hke] at hk
    simp only [KOK] at hk
    subst hk
    rw [hv.lit_inv]
    exact Post.pure hM rfl (by simp [Builtin.len_, run_underlying hu, goInt]) (.lit _)
  · rw [hke] at hk
    simp only [KOK] at hk
    subst hk
    exact Post.pure hM rfl (by simp [Builtin.len_, run_underlying hu, goInt]) (.lit _)
end
end Go.TravelAbs
