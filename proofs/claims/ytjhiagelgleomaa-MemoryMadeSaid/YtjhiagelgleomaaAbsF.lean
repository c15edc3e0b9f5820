import Derived.Test.YtjhiagelgleomaaAbsE
namespace Go.TravelAbs
open Go.RowKit Go.TravelBase
set_option linter.unusedVariables false
set_option linter.unusedSimpArgs false

structure Adv (S : CSet) (m : RMap) (w : World) (S' : CSet) (m' : RMap) (w' : World) : Prop where
  st : ∀ b o, S b o → S' b o ∧ w'.cell? ⟨b, o, none⟩ = w.cell? ⟨b, o, none⟩
  mp : ∀ k r, m k = some r → m' k = some r
theorem Adv.refl (S : CSet) (m : RMap) (w : World) : Adv S m w S m w := ⟨fun _ _ h => ⟨h, rfl⟩, fun _ _ h => h⟩
theorem Adv.trans {S S' S2 : CSet} {m m' m2 : RMap} {w w' w2 : World} (h : Adv S m w S' m' w') (k : Adv S' m' w' S2 m2 w2) : Adv S m w S2 m2 w2 :=
  ⟨fun b o hs => ⟨(k.st b o (h.st b o hs).1).1, (k.st b o (h.st b o hs).1).2.trans (h.st b o hs).2⟩, fun i r hm => k.mp i r (h.mp i r hm)⟩
theorem VR.adv {S S' : CSet} {m m' : RMap} {w w' : World} {x : AV} {v : Value} (h : VR w S m x v) (a : Adv S m w S' m' w') : VR w' S' m' x v := h.mono a.st a.mp
section
variable {P : Program} {ty : Ty} {X : Cx} {H : List (Nat × Blk)} {S : CSet} {m : RMap} {w : World}
theorem alloc_cell (o : Obj) {b : Nat} (hb : b < w.heap.size) (i : Nat) : (w.alloc o).cell? ⟨b, i, none⟩ = w.cell? ⟨b, i, none⟩ := World.cell?_alloc_lt w o ⟨b, i, none⟩ hb
theorem alloc_heap_lt (o : Obj) {b : Nat} (hb : b < w.heap.size) : (w.alloc o).heap[b]? = w.heap[b]? := by
  show (w.heap.push o)[b]? = _
  rw [Array.getElem?_push_lt hb, Array.getElem?_eq_getElem hb]
theorem alloc_heap_new (o : Obj) : (w.alloc o).heap[w.heap.size]? = some o := by
  show (w.heap.push o)[_]? = _
  exact Array.getElem?_push_size
theorem Frm.alloc {X : Cx} {w : World} (h : Frm X w) (o : Obj) : Frm X (w.alloc o) :=
  ⟨h.os, h.tape, h.output, by have := h.size; show _ ≤ (w.heap.push o).size; simp; omega, fun g hg hl => (alloc_heap_lt o (by have := h.size; omega)).trans (h.block g hg hl)⟩
theorem Mem.row_lt (h : Mem X H S m w) {k : Nat} {b : Blk} {r : Row} (hk : lk H k = some b) (hr : m k = some r) (hm : b.mode ≤ 1) (hc : 0 < r.cap) : r.g < w.heap.size := h.lt hk hr hm hc
theorem HA.mono {es : Nat} {c : AV} {cur : Array Value} {S' : CSet} {m' : RMap} {w' : World} (h : HA w S m es c cur) (a : Adv S m w S' m' w') : HA w' S' m' es c cur := by
  intro i hi
  obtain ⟨h1, h2⟩ := h i hi
  refine ⟨h1, fun j y hy => ?_⟩
  obtain ⟨u, hu, hv⟩ := h2 j y hy
  exact ⟨u, hu, hv.adv a⟩
/-- A new block. -/
theorem Mem.new (h : Mem X H S m w) {k : Nat} (hk : lk H k = none) {c : AV} {cap es : Nat} {cur : Array Value} (T : TypeId) (hs : cur.size = cap * es) (he : cE c = es) (hn : cN c ≤ cap) (hM : cap ≤ maxLen) (hh : HA w S m es c cur) :
    Mem X ((k, ⟨c, 0, false⟩) :: H) S (mset m k ⟨w.heap.size, cap, es⟩) (w.alloc (.cells cur T)) ∧ Adv S m w S (mset m k ⟨w.heap.size, cap, es⟩) (w.alloc (.cells cur T)) := by
  have hst : ∀ b o, S b o → S b o ∧ (w.alloc (.cells cur T)).cell? ⟨b, o, none⟩ = w.cell? ⟨b, o, none⟩ := fun b o hb => ⟨hb, alloc_cell _ (h.slt b o hb) o⟩
  have hadv : Adv S m w S (mset m k ⟨w.heap.size, cap, es⟩) (w.alloc (.cells cur T)) := ⟨hst, mset_le (.inl (h.dom k hk))⟩
  refine ⟨h.upd k ⟨c, 0, false⟩ ⟨w.heap.size, cap, es⟩ (.inl (h.dom k hk)) hst (h.frm.alloc _) h.s1 (fun b o hb => ?_) (fun j bj rj hj h1 h2 h3 h4 => ?_) (fun _ => ?_), hadv⟩
  · have := h.slt b o hb
    show _ < (w.heap.push _).size
    simp
    omega
  · have hlt := h.lt h1 h2 h3 h4
    exact ⟨alloc_heap_lt _ hlt, fun _ q => q, fun _ _ => Nat.ne_of_lt hlt⟩
  · refine ⟨he.symm, hn, hM, fun i hi => ?_, fun h1 => by simp at h1, fun _ hc => ⟨by show X.w0.heap.size ≤ _; exact h.frm.size, ⟨cur, T, alloc_heap_new _, hs⟩, fun o _ hso => by have := h.slt _ _ hso; exact absurd this (Nat.lt_irrefl _)⟩⟩
    obtain ⟨h1, h2⟩ := hh i hi
    refine ⟨h1, fun j y hy => ?_⟩
    obtain ⟨u, hu, hv⟩ := h2 j y hy
    refine ⟨u, ?_, hv.adv hadv⟩
    unfold World.cell?
    rw [alloc_heap_new]
    simpa using hu
/-- A block without a row: an empty one. -/
theorem Mem.newE (h : Mem X H S m w) {k : Nat} (hk : lk H k = none) {c : AV} (hc : cN c = 0) :
    Mem X ((k, ⟨c, 0, false⟩) :: H) S (mset m k ⟨0, 0, cE c⟩) w ∧ Adv S m w S (mset m k ⟨0, 0, cE c⟩) w := by
  have hst : ∀ b o, S b o → S b o ∧ w.cell? ⟨b, o, none⟩ = w.cell? ⟨b, o, none⟩ := fun b o hb => ⟨hb, rfl⟩
  refine ⟨h.upd k ⟨c, 0, false⟩ ⟨0, 0, cE c⟩ (.inl (h.dom k hk)) hst h.frm h.s1 h.slt (fun j bj rj hj h1 h2 h3 h4 => ⟨rfl, fun _ q => q, fun _ h5 => by cases h5⟩) (fun _ => ?_), ⟨hst, mset_le (.inl (h.dom k hk))⟩⟩
  exact ⟨rfl, by show cN c ≤ 0; omega, Nat.zero_le _, fun i hi => by have : i < cN c := hi; omega, fun h1 => by simp at h1, fun _ h1 => by cases h1⟩
/-- A block is forgotten. -/
theorem Mem.drop (h : Mem X H S m w) {k : Nat} {b : Blk} {r : Row} (hk : lk H k = some b) (hr : m k = some r) (c : AV) : Mem X ((k, ⟨c, 3, false⟩) :: H) S m w := by
  have e : mset m k r = m := by
    funext j
    unfold mset
    split
    · rename_i e; rw [e, hr]
    · rfl
  have := h.upd (S' := S) (w' := w) k ⟨c, 3, false⟩ r (.inr hr) (fun b o hb => ⟨hb, rfl⟩) h.frm h.s1 h.slt (fun j bj rj hj h1 h2 h3 h4 => ⟨rfl, fun _ q => q, fun h5 => by simp at h5⟩) (fun h3 => by simp at h3)
  rwa [e] at this
/-- A settled block may no more be appended to. -/
theorem Mem.shut (h : Mem X H S m w) {k : Nat} {b : Blk} {r : Row} (hk : lk H k = some b) (hr : m k = some r) (h1 : b.mode = 1) : Mem X ((k, ⟨b.c, 2, b.ln⟩) :: H) S m w := by
  have e : mset m k r = m := by
    funext j
    unfold mset
    split
    · rename_i e; rw [e, hr]
    · rfl
  obtain ⟨r', h2, h3⟩ := h.blk k b hk
  rw [hr] at h2
  injection h2 with h2
  subst h2
  have hB := h3 (by omega)
  have := h.upd (S' := S) (w' := w) k ⟨b.c, 2, b.ln⟩ r (.inr hr) (fun b o hb => ⟨hb, rfl⟩) h.frm h.s1 h.slt (fun j bj rj hj h1 h2 h3 h4 => ⟨rfl, fun _ q => q, fun h5 => by simp at h5⟩) (fun _ => by
    rw [e]
    exact ⟨hB.es, hB.len, hB.max, hB.rd, fun _ => hB.set (by omega), fun h6 => by simp at h6⟩)
  rwa [e] at this
/-- A block is settled. -/
def settle (S : CSet) (g k : Nat) : CSet := fun b o => S b o ∨ (b = g ∧ o < k)
theorem Mem.freeze (h : Mem X H S m w) {k : Nat} {b : Blk} {r : Row} (hk : lk H k = some b) (hr : m k = some r) (h1 : b.mode = 0) (hln : b.ln = false) (hc : 0 < r.cap) :
    Mem X ((k, ⟨b.c, 1, false⟩) :: H) (settle S r.g (cN b.c * r.es)) m w ∧ Adv S m w (settle S r.g (cN b.c * r.es)) m w := by
  have e : mset m k r = m := by
    funext j
    unfold mset
    split
    · rename_i e; rw [e, hr]
    · rfl
  obtain ⟨r', h2, h3⟩ := h.blk k b hk
  rw [hr] at h2
  injection h2 with h2
  subst h2
  have hB := h3 (by omega)
  obtain ⟨q1, ⟨cur, T, q2, q3⟩, q4⟩ := hB.row (by omega) hc
  have hlt := h.lt hk hr (by omega) hc
  have hst : ∀ b' o, S b' o → settle S r.g (cN b.c * r.es) b' o ∧ w.cell? ⟨b', o, none⟩ = w.cell? ⟨b', o, none⟩ := fun b' o hb => ⟨.inl hb, rfl⟩
  have hadv : Adv S m w (settle S r.g (cN b.c * r.es)) m w := ⟨hst, fun _ _ q => q⟩
  refine ⟨?_, hadv⟩
  have hown : X.w0.heap.size ≤ r.g := by
    rw [hln] at q1
    exact q1
  have := h.upd (S' := settle S r.g (cN b.c * r.es)) (w' := w) k ⟨b.c, 1, false⟩ r (.inr hr) hst h.frm (fun b' o hb => ?_) (fun b' o hb => ?_) (fun j bj rj hj h1 h2 h3 h4 => ?_) (fun _ => ?_)
  · rwa [e] at this
  · rcases hb with hb | ⟨rfl, _⟩
    · exact h.s1 _ _ hb
    · exact .inr hown
  · rcases hb with hb | ⟨rfl, _⟩
    · exact h.slt _ _ hb
    · exact hlt
  · have hne := h.apart hk hr (by omega) hc h1 h2 h3 h4 hj
    exact ⟨rfl, fun o ho => ho.resolve_right (fun q => hne q.1), fun _ _ => hne⟩
  · rw [e]
    refine ⟨hB.es, hB.len, hB.max, fun i hi => ?_, fun _ o ho => .inr ⟨rfl, ho⟩, fun _ _ => ⟨hown, ⟨cur, T, q2, q3⟩, fun o ho hs => ?_⟩⟩
    · obtain ⟨h5, h6⟩ := hB.rd i hi
      refine ⟨h5, fun j y hy => ?_⟩
      obtain ⟨u, hu, hv⟩ := h6 j y hy
      exact ⟨u, hu, hv.adv hadv⟩
    · rcases ho with ho | ho
      · simp at ho
      · rcases hs with hs | ⟨_, hs⟩
        · exact q4 o (.inl h1) hs
        · have : cN b.c * r.es ≤ o := ho
          omega
/-! ## Stores -/
def toB : AV → UInt8
  | .lit (.int _ z) => UInt8.ofNat z.toNat
  | _ => 0
def setE (c : AV) (i : Nat) (x : AV) : AV :=
  match c with
  | .by_ bs => .by_ (bs.set i (toB x))
  | .li es xs => .li es (xs.set i x)
  | c => c
def byteOK (x : AV) : Prop := x = bA (toB x)
def putX (x : AV) (off : Nat) (ys : List AV) : AV :=
  match x with
  | .agg xs => .agg (xs.take off ++ ys ++ xs.drop (off + ys.length))
  | x => match ys with
    | [y] => y
    | _ => x
theorem cl_single {x : AV} (h : isA x = false) : x.cl = [x] := by cases x <;> first | rfl | cases h
theorem putX_cl {x : AV} {off : Nat} {ys : List AV} (h1 : off + ys.length ≤ x.cl.length) (h2 : ys ≠ []) (h3 : ∀ y ∈ ys, y.one = true) : (putX x off ys).cl = x.cl.take off ++ ys ++ x.cl.drop (off + ys.length) := by
  have hs : isA x = false → (putX x off ys).cl = x.cl.take off ++ ys ++ x.cl.drop (off + ys.length) := by
    intro hx
    rw [cl_single hx] at h1 ⊢
    simp only [List.length_cons, List.length_nil] at h1
    have hy : ys.length ≠ 0 := by simpa using h2
    obtain ⟨y, rfl⟩ : ∃ y, ys = [y] := List.length_eq_one_iff.1 (by omega)
    have h0 : off = 0 := by simp at h1; omega
    subst h0
    have e : putX x 0 [y] = y := by cases x <;> first | rfl | cases hx
    rw [e]
    have : y.one = true := h3 y (by simp)
    cases y <;> first | rfl | cases this
  cases x with
  | agg xs => rfl
  | _ => exact hs rfl
theorem setE_N (c : AV) (i : Nat) (x : AV) : cN (setE c i x) = cN c ∧ cE (setE c i x) = cE c := by
  cases c <;> simp [setE, cN, cE]
theorem setE_ne {c : AV} {i j : Nat} {x : AV} (h : j ≠ i) : cAt (setE c i x) j = cAt c j := by
  cases c <;> simp [setE, cAt, List.getD, List.getElem?_set_ne (Ne.symm h)]
theorem setE_eq {c : AV} {i : Nat} {x : AV} (hi : i < cN c) (hx : (∃ bs, c = .by_ bs) → byteOK x) : cAt (setE c i x) i = x := by
  cases c with
  | by_ bs =>
    have h := hx ⟨_, rfl⟩
    simp only [cN] at hi
    simp only [setE, cAt, List.getD, List.getElem?_set_self hi]
    exact h.symm
  | li es xs =>
    simp only [cN] at hi
    simp [setE, cAt, List.getD, List.getElem?_set_self hi]
  | _ => simp [cN] at hi
theorem setCells_size (b o : Nat) : ∀ (vs : List Value) (o : Nat) (w : World) (g : Nat) (cur : Array Value) (T : TypeId) (fz : Nat × Nat), w.heap[g]? = some (.cells cur T fz) → ∃ cur', (w.setCells b o vs).heap[g]? = some (.cells cur' T fz) ∧ cur'.size = cur.size
  | [], _, _, _, cur, _, _, h => ⟨cur, h, rfl⟩
  | v :: vs, o, w, g, cur, T, fz, h => by
    show ∃ cur', ((w.setCell ⟨b, o, none⟩ v).setCells b (o + 1) vs).heap[g]? = some (.cells cur' T fz) ∧ cur'.size = cur.size
    have h1 : ∃ cur1, (w.setCell ⟨b, o, none⟩ v).heap[g]? = some (.cells cur1 T fz) ∧ cur1.size = cur.size := by
      by_cases hg : g = b
      · subst hg
        obtain ⟨hlt, he⟩ := Array.getElem?_eq_some_iff.1 h
        refine ⟨cur.setIfInBounds o v, ?_, by simp⟩
        unfold World.setCell
        simp [hlt, Array.getElem_modify, he]
      · exact ⟨cur, by rw [Below.heap_setCell w ⟨b, o, none⟩ v g hg]; exact h, rfl⟩
    obtain ⟨cur1, h2, h3⟩ := h1
    obtain ⟨cur2, h4, h5⟩ := setCells_size b o vs (o + 1) _ g cur1 T fz h2
    exact ⟨cur2, h4, h5.trans h3⟩
theorem setCells_heap (b : Nat) : ∀ (vs : List Value) (o : Nat) (w : World) (g : Nat), g ≠ b → (w.setCells b o vs).heap[g]? = w.heap[g]?
  | [], _, _, _, _ => rfl
  | u :: vs, o, w, g, hg => by
    show ((w.setCell ⟨b, o, none⟩ u).setCells b (o + 1) vs).heap[g]? = _
    rw [setCells_heap b vs (o + 1) _ g hg, Below.heap_setCell w ⟨b, o, none⟩ u g hg]
theorem setCells_rest (b : Nat) : ∀ (vs : List Value) (o : Nat) (w : World), (w.setCells b o vs).os = w.os ∧ (w.setCells b o vs).tape = w.tape ∧ (w.setCells b o vs).output = w.output ∧ (w.setCells b o vs).heap.size = w.heap.size
  | [], _, _ => ⟨rfl, rfl, rfl, rfl⟩
  | u :: vs, o, w => by
    obtain ⟨h1, h2, h3, h4⟩ := setCells_rest b vs (o + 1) (w.setCell ⟨b, o, none⟩ u)
    exact ⟨h1, h2, h3, h4.trans (by simp)⟩
theorem Frm.setCells {X : Cx} {w : World} (h : Frm X w) {b : Nat} (hb : X.w0.heap.size ≤ b ∨ X.lent b) (o : Nat) (vs : List Value) : Frm X (w.setCells b o vs) := by
  obtain ⟨h1, h2, h3, h4⟩ := setCells_rest b vs o w
  refine ⟨h1.trans h.os, h2.trans h.tape, h3.trans h.output, by rw [h4]; exact h.size, fun g hg hl => ?_⟩
  rw [setCells_heap b vs o w g (fun e => by subst e; rcases hb with hb | hb; omega; exact hl hb)]
  exact h.block g hg hl
theorem own_cases {X : Cx} {ln : Bool} {g : Nat} (h : X.own ln g) : X.w0.heap.size ≤ g ∨ X.lent g := by
  unfold Cx.own at h
  split at h
  · exact .inr h
  · exact .inl h
/-- Cells of a block that may be written are written. -/
theorem Mem.put (h : Mem X H S m w) {k : Nat} {b : Blk} {r : Row} (hk : lk H k = some b) (hr : m k = some r) (h1 : b.mode = 0) {c' : AV} {o : Nat} {vs : List Value} (hn : cN c' = cN b.c) (he : cE c' = cE b.c)
    (hvs : vs ≠ []) (hcap : 0 < r.cap) (ho : o + vs.length ≤ r.cap * r.es)
    (hrd : ∀ i, i < cN c' → (cAt c' i).cl.length = r.es ∧ ∀ j y, (cAt c' i).cl[j]? = some y → ∃ u, (w.setCells r.g o vs).cell? ⟨r.g, i * r.es + j, none⟩ = some u ∧ VR w S m y u) :
    Mem X ((k, ⟨c', 0, b.ln⟩) :: H) S m (w.setCells r.g o vs) ∧ Adv S m w S m (w.setCells r.g o vs) := by
  have e : mset m k r = m := by
    funext j
    unfold mset
    split
    · rename_i e; rw [e, hr]
    · rfl
  obtain ⟨r', h2, h3⟩ := h.blk k b hk
  rw [hr] at h2
  injection h2 with h2
  subst h2
  have hB := h3 (by omega)
  obtain ⟨q1, ⟨cur, T, q2, q3⟩, q4⟩ := hB.row (by omega) hcap
  have hst : ∀ b' o', S b' o' → S b' o' ∧ (w.setCells r.g o vs).cell? ⟨b', o', none⟩ = w.cell? ⟨b', o', none⟩ := by
    intro b' o' hb
    refine ⟨hb, cell_of_heap (setCells_heap r.g vs o w b' (fun e => ?_)) o'⟩
    subst e
    exact q4 o' (.inl h1) hb
  have hadv : Adv S m w S m (w.setCells r.g o vs) := ⟨hst, fun _ _ q => q⟩
  refine ⟨?_, hadv⟩
  obtain ⟨_, _, _, hsz⟩ := setCells_rest r.g vs o w
  have := h.upd (S' := S) (w' := w.setCells r.g o vs) k ⟨c', 0, b.ln⟩ r (.inr hr) hst (h.frm.setCells (own_cases q1) o vs) h.s1 (fun b' o' hb => by rw [hsz]; exact h.slt _ _ hb) (fun j bj rj hj h1' h2 h3 h4 => ?_) (fun _ => ?_)
  · rwa [e] at this
  · have hne := h.apart hk hr (by omega) hcap h1' h2 h3 h4 hj
    exact ⟨setCells_heap r.g vs o w rj.g hne, fun o q => q, fun _ _ => hne⟩
  · rw [e]
    obtain ⟨cur', q5, q6⟩ := setCells_size r.g o vs o w r.g cur T _ q2
    refine ⟨hB.es.trans he.symm, by show cN c' ≤ _; rw [hn]; exact hB.len, hB.max, fun i hi => ?_, fun h5 => by simp at h5, fun _ _ => ⟨q1, ⟨cur', T, q5, by rw [q6]; exact q3⟩, fun o _ => q4 o (.inl h1)⟩⟩
    obtain ⟨h5, h6⟩ := hrd i hi
    refine ⟨h5, fun j y hy => ?_⟩
    obtain ⟨u, hu, hv⟩ := h6 j y hy
    exact ⟨u, hu, hv.adv hadv⟩
end
end Go.TravelAbs
