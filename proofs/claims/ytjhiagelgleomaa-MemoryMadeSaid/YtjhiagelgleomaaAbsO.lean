import Derived.Test.YtjhiagelgleomaaAbsN
namespace Go.TravelAbs
open Go.RowKit Go.TravelBase
set_option linter.unusedVariables false
set_option linter.unusedSimpArgs false

def lentAds : List Nat → List Blk → List AV → Nat → List Ad
  | k :: ks, b :: bs, c :: cs, p => ⟨k, p, c, b.ln⟩ :: lentAds ks bs cs (p + 1)
  | _, _, _, _ => []
theorem lentAds_mem : ∀ (ks : List Nat) (bs : List Blk) (cs : List AV) (p : Nat) (a : Ad), a ∈ lentAds ks bs cs p → ∃ i b, ks[i]? = some a.k ∧ bs[i]? = some b ∧ cs[i]? = some a.c ∧ a.q = p + i ∧ a.ln = b.ln
  | k :: ks, b :: bs, c :: cs, p, a, h => by
    simp only [lentAds, List.mem_cons] at h
    rcases h with rfl | h
    · exact ⟨0, b, by simp, by simp, by simp, rfl, rfl⟩
    · obtain ⟨i, b', h1, h2, h3, h4, h5⟩ := lentAds_mem ks bs cs (p + 1) a h
      exact ⟨i + 1, b', by simpa using h1, by simpa using h2, by simpa using h3, by omega, h5⟩
  | [], _, _, _, _, h => by simp [lentAds] at h
  | _ :: _, [], _, _, _, h => by simp [lentAds] at h
  | _ :: _, _ :: _, [], _, _, h => by simp [lentAds] at h
theorem lentAds_keys : ∀ (ks : List Nat) (bs : List Blk) (cs : List AV) (p : Nat), ((lentAds ks bs cs p).map (·.k)).Sublist ks
  | k :: ks, b :: bs, c :: cs, p => by
    simp only [lentAds, List.map_cons]
    exact (lentAds_keys ks bs cs (p + 1)).cons_cons k
  | [], _, _, _ => by simp [lentAds]
  | _ :: _, [], _, _ => by simp [lentAds]
  | _ :: _, _ :: _, [], _ => by simp [lentAds]
theorem frL_keys : ∀ (xs : List AV) (fr q : Nat), ((frL fr q xs).map (·.k)).Nodup ∧ ∀ k ∈ (frL fr q xs).map (·.k), fr ≤ k
  | [], fr, q => by simp [frL]
  | x :: r, fr, q => by
    obtain ⟨h1, h2⟩ := frL_keys r (fr + 1) (q + 1)
    simp only [frL]
    unfold frP
    split
    · simp only [List.cons_append, List.nil_append, List.map_cons, List.nodup_cons]
      refine ⟨⟨fun h => by have := h2 _ h; omega, h1⟩, fun k hk => ?_⟩
      rcases List.mem_cons.1 hk with rfl | hk
      · exact Nat.le_refl _
      · have := h2 k hk; omega
    · simp only [List.nil_append]
      exact ⟨h1, fun k hk => by have := h2 k hk; omega⟩
theorem frA_mem {fr : Nat} {r : AV} {a : Ad} (h : a ∈ frA fr 1000 r) : ∃ i, i < nFr r ∧ a.k = fr + i ∧ a.q = 1000 + i ∧ a.ln = false := by
  unfold frA at h
  split at h
  · obtain ⟨i, h1, h2, h3, _, h5⟩ := frL_mem _ _ _ _ h
    exact ⟨i, h1, h2, h3, h5⟩
  · rename_i hne
    unfold frP at h
    split at h
    · simp only [List.mem_singleton] at h
      subst h
      exact ⟨0, by simp [nFr], rfl, rfl, rfl⟩
    · cases h
theorem frA_keys (fr : Nat) (r : AV) : ((frA fr 1000 r).map (·.k)).Nodup := by
  unfold frA
  split
  · exact (frL_keys _ _ _).1
  · unfold frP
    split <;> simp
theorem RT_frA {fr : Nat} {r : AV} (hr : RT r) {a : Ad} (h : a ∈ frA fr 1000 r) : TrC a.c := by
  unfold frA at h
  unfold RT at hr
  split at h
  · obtain ⟨i, h1, h2, h3, h4, _⟩ := frL_mem _ _ _ _ h
    obtain ⟨c, h4, h6⟩ := h4
    have := hr _ (List.mem_of_getElem? h4)
    rw [h6]
    exact this
  · rename_i hne
    unfold frP at h
    split at h
    · simp only [List.mem_singleton] at h
      subst h
      simp only [RT1] at hr
      exact hr
    · cases h
def dropH : List Nat → List (Nat × Blk) → List (Nat × Blk)
  | [], H => H
  | k :: ks, H => (k, ⟨.any, 3, false⟩) :: dropH ks H
theorem dropH_lk : ∀ (ks : List Nat) (H : List (Nat × Blk)) (j : Nat), lk (dropH ks H) j = if j ∈ ks then some ⟨.any, 3, false⟩ else lk H j
  | [], H, j => by simp [dropH]
  | k :: ks, H, j => by
    simp only [dropH, lk, List.mem_cons]
    by_cases h : j = k
    · simp [h]
    · rw [if_neg h, dropH_lk ks H j]
      simp [h]
section
variable {P : Program} {ty : Ty} {X : Cx} {H : List (Nat × Blk)} {S : CSet} {m : RMap} {w : World}
theorem Mem.drops (h : Mem X H S m w) : ∀ (ks : List Nat), (∀ k ∈ ks, ∃ b, lk H k = some b) → Mem X (dropH ks H) S m w
  | [], _ => h
  | k :: ks, hk => by
    have ih := Mem.drops h ks (fun j hj => hk j (by simp [hj]))
    obtain ⟨b, hb⟩ := hk k (by simp)
    obtain ⟨r, hr, _⟩ := h.blk k b hb
    have hb' : ∃ b', lk (dropH ks H) k = some b' := by
      rw [dropH_lk]
      split
      · exact ⟨_, rfl⟩
      · exact ⟨b, hb⟩
    obtain ⟨b', hb'⟩ := hb'
    exact ih.drop hb' hr .any
theorem Mem.congr {H' : List (Nat × Blk)} (h : Mem X H S m w) (e : ∀ k, lk H k = lk H' k) : Mem X H' S m w :=
  ⟨h.lm, h.frm, h.s0, h.s1, h.slt, fun k hk => h.dom k ((e k).trans hk), fun k b hk => h.blk k b ((e k).trans hk), fun k k' b b' r r' h1 h2 => h.inj k k' b b' r r' ((e k).trans h1) ((e k').trans h2)⟩
theorem adH_congr : ∀ (l : List Ad) (H H' : List (Nat × Blk)) (j : Nat), lk H j = lk H' j ∨ j ∈ l.map (·.k) → lk (adH l H) j = lk (adH l H') j
  | [], H, H', j, h => by simpa [adH] using h
  | a :: l, H, H', j, h => by
    simp only [adH]
    refine adH_congr l _ _ j ?_
    simp only [lk]
    by_cases hj : j = a.k
    · left; rw [if_pos hj, if_pos hj]
    · rw [if_neg hj, if_neg hj]
      rcases h with h | h
      · exact .inl h
      · right
        simp only [List.map_cons, List.mem_cons] at h
        exact h.resolve_left hj
theorem lentAds_has : ∀ (ks : List Nat) (bs : List Blk) (cs : List AV) (p : Nat), bs.length = ks.length → cs.length = ks.length → ∀ k ∈ ks, k ∈ (lentAds ks bs cs p).map (·.k)
  | [], _, _, _, _, _, k, h => by cases h
  | x :: ks, [], _, _, h, _, _, _ => by simp at h
  | x :: ks, _ :: _, [], _, _, h, _, _ => by simp at h
  | x :: ks, b :: bs, c :: cs, p, h1, h2, k, h => by
    simp only [lentAds, List.map_cons, List.mem_cons]
    rcases List.mem_cons.1 h with h | h
    · exact .inl h
    · exact .inr (lentAds_has ks bs cs (p + 1) (by simpa using h1) (by simpa using h2) k h)
theorem call_coreE (hM : Mem X H S m w) {ks : List Nat} (h1000 : ks.length < 1000) {bs : List Blk} {rows : Nat → Row} (hlen : bs.length = ks.length) (hks : ∀ p k, ks[p]? = some k → ∃ b, bs[p]? = some b ∧ lk H k = some b ∧ m k = some (rows p) ∧ b.mode = 0 ∧ 0 < cN b.c ∧ TrC b.c) (hnd : ks.Nodup)
    {f : FuncId} {args : List AV} {I : Type} {pI : I → Prop} {r : I → AV} {ls' : I → List AV} (hS : FnE P f args (bs.map (·.c)) pI r ls') (hls : ∀ i, pI i → (ls' i).length = ks.length) (hlt : ∀ i, pI i → ∀ c ∈ ls' i, TrC c) (hr : ∀ i, pI i → RT (r i)) {fr : Nat} (hfr : ∀ i, pI i → ∀ q, q < nFr (r i) → lk H (fr + q) = none)
    {vs : Array Value} (hvs : vs.size = args.length) (hargs : ∀ (j : Nat) (x : AV) (v : Value), args[j]? = some x → vs[j]? = some v → VR w S (mL ks.length rows) x v) :
    Calls P f vs w fun e w' => ∃ i, pI i ∧ ∃ v S' m2, e = .returned v ∧ Adv S m w S' m2 w' ∧ Mem X (adH (lentAds ks bs (ls' i) 0 ++ frA fr 1000 (r i)) H) S' m2 w' ∧ VR w' S' m2 (rcv fr (r i)).1 v := by
  have hbl : (bs.map (·.c)).length = ks.length := by simp [hlen]
  have hat : ∀ p, p < ks.length → ∃ k b, ks[p]? = some k ∧ bs[p]? = some b ∧ lk H k = some b ∧ m k = some (rows p) ∧ b.mode = 0 ∧ 0 < cN b.c ∧ TrC b.c ∧ BR w S m X.own b (rows p) ∧ 0 < (rows p).cap := by
    intro p hp
    obtain ⟨b, h1, h2, h3, h4, h5, h6⟩ := hks p _ (List.getElem?_eq_getElem hp)
    obtain ⟨r', h7, h8⟩ := hM.blk _ _ h2
    rw [h3] at h7
    injection h7 with h7
    subst h7
    have hB := h8 (by omega)
    have := hB.len
    exact ⟨_, b, List.getElem?_eq_getElem hp, h1, h2, h3, h4, h5, h6, hB, by omega⟩
  refine (hS w S rows vs hM.slt hvs (by rw [hbl]; exact hargs) (fun p c hc => ?_) (fun p q hp hq he => ?_)).mono ?_
  · rw [List.getElem?_map] at hc
    obtain ⟨b, h1, rfl⟩ := Option.map_eq_some_iff.1 hc
    have hp : p < ks.length := by rw [← hlen]; exact (List.getElem?_eq_some_iff.1 h1).1
    obtain ⟨k, b', h2, h3, h4, h5, h6, h7, h8, h9, h10⟩ := hat p hp
    rw [h1] at h3
    injection h3 with h3
    subst h3
    obtain ⟨bc, bm, bl⟩ := b
    simp only at h6
    subst h6
    exact ⟨h9.tr h8 fun _ _ _ => hM.lt h4 h5 (by simp) h10, h10⟩
  · rw [hbl] at hp hq
    obtain ⟨k, b, h2, h3, h4, h5, h6, h7, h8, h9, h10⟩ := hat p hp
    obtain ⟨k', b', h2', h3', h4', h5', h6', h7', h8', h9', h10'⟩ := hat q hq
    have hkk := hM.inj k k' b b' _ _ h4 h4' h5 h5' (by omega) (by omega) h10 h10' he
    subst hkk
    exact (List.getElem?_inj hp hnd).1 (h2.trans h2'.symm)
  · rintro e w' ⟨iI, hiI, v, S', m', rfl, C, hv⟩
    rw [hbl] at C
    refine ⟨iI, hiI, ?_⟩
    have hls := hls iI hiI
    have hlt := hlt iI hiI
    have hr := hr iI hiI
    have hfr := hfr iI hiI
    clear hS
    revert C hv hls hlt hr hfr
    generalize ls' iI = ls'
    generalize r iI = r
    intro C hv hls hlt hr hfr
    have hm' : ∀ p, p < ks.length → m' p = some (rows p) := C.lm
    have hlent : ∀ g, lentSet ks.length rows g → ∀ j bj rj, lk H j = some bj → m j = some rj → bj.mode ≤ 1 → 0 < rj.cap → j ∉ ks → rj.g ≠ g := by
      rintro g ⟨p, hp, rfl⟩ j bj rj h1 h2 h3 h4 hj
      obtain ⟨k, b, q2, q3, q4, q5, q6, q7, q8, q9, q10⟩ := hat p hp
      exact hM.apart q4 q5 (by omega) q10 h1 h2 h3 h4 (fun e => hj (e ▸ List.mem_of_getElem? q2))
    have hSl : ∀ b o, S b o → ¬ lentSet ks.length rows b := by
      rintro b o hs ⟨p, hp, rfl⟩
      obtain ⟨k, b, q2, q3, q4, q5, q6, q7, q8, q9, q10⟩ := hat p hp
      exact (q9.row (by omega) q10).2.2 o (.inl q6) hs
    have hst : ∀ b o, S b o → S' b o ∧ w'.cell? ⟨b, o, none⟩ = w.cell? ⟨b, o, none⟩ := fun b o hs => ⟨C.s0 b o hs, cell_of_heap (C.frm.block b (hM.slt b o hs) (hSl b o hs)) o⟩
    have hsz : w.heap.size ≤ w'.heap.size := C.frm.size
    have hxsz : X.w0.heap.size ≤ w.heap.size := hM.frm.size
    have hnotlent : ∀ g, g < X.w0.heap.size → ¬ X.lent g → ¬ lentSet ks.length rows g := by
      rintro g hg hl ⟨p, hp, rfl⟩
      obtain ⟨k, b, q2, q3, q4, q5, q6, q7, q8, q9, q10⟩ := hat p hp
      rcases own_cases (q9.row (by omega) q10).1 with h | h
      · omega
      · exact hl h
    have hfrm : Frm X w' := ⟨C.frm.os.trans hM.frm.os, C.frm.tape.trans hM.frm.tape, C.frm.output.trans hM.frm.output, by omega, fun g hg hl => (C.frm.block g (by show g < w.heap.size; omega) (hnotlent g hg hl)).trans (hM.frm.block g hg hl)⟩
    have hs1 : ∀ b o, S' b o → X.S0 b o ∨ X.w0.heap.size ≤ b := fun b o hs => by
      rcases C.s1 b o hs with h | h
      · exact hM.s1 b o h
      · exact .inr (by have : w.heap.size ≤ b := h; omega)
    have hMd := (hM.drops ks (fun k hk => by
      obtain ⟨p, hp, e⟩ := List.getElem_of_mem hk
      obtain ⟨b, _, h2, _⟩ := hks p k (by rw [← e]; exact List.getElem?_eq_getElem hp)
      exact ⟨b, h2⟩)).world hst hfrm hs1 C.slt (fun j bj rj h1 h2 h3 h4 => by
      rw [dropH_lk] at h1
      split at h1
      · injection h1 with h1; subst h1; simp at h3
      · rename_i hj
        have hg := hM.lt h1 h2 h3 h4
        refine ⟨C.frm.block _ hg (fun hl => hlent _ hl j bj rj h1 h2 h3 h4 hj rfl), fun o ho => ?_⟩
        rcases C.s1 _ o ho with h | h
        · exact h
        · have : w.heap.size ≤ rj.g := h; omega)
    have hq : ∀ a ∈ lentAds ks bs ls' 0 ++ frA fr 1000 r, ∃ ln, lk ((rcv 1000 r).2 ++ lentH ls' 0) a.q = some ⟨a.c, 0, ln⟩ ∧ ((a.q < 1000 ∧ ks[a.q]? = some a.k) ∨ (1000 ≤ a.q ∧ a.k = fr + (a.q - 1000))) := by
      intro a ha
      rcases List.mem_append.1 ha with ha | ha
      · obtain ⟨i, b, h1, h2, h3, h4, h5⟩ := lentAds_mem _ _ _ _ _ ha
        have hi : i < ks.length := (List.getElem?_eq_some_iff.1 h1).1
        rw [Nat.zero_add] at h4
        have hlk := lentH_lk ls' 0 i a.c h3
        rw [Nat.zero_add] at hlk
        exact ⟨true, by rw [h4, rcv_lo _ (by omega)]; exact hlk, .inl ⟨by omega, by rw [h4]; exact h1⟩⟩
      · obtain ⟨i, hi, e1, e2, e3⟩ := frA_mem ha
        exact ⟨false, rcv_lk (lentH ls' 0) ha, .inr ⟨by omega, by rw [e1, e2]; omega⟩⟩
    have had := adopt (m' := m') (lentAds ks bs ls' 0 ++ frA fr 1000 r) (dropH ks H) m hMd (fun a ha => ?_) ?_ (fun a ha b hb ra rb h1 h2 h3 h4 h5 => ?_)
    · obtain ⟨m2, q1, q2, q3⟩ := had
      refine ⟨v, S', m2, rfl, ⟨hst, q2⟩, ?_, rcv_VR hr (fun a ha q hq => q3 a (by simp [ha]) q hq) hv⟩
      refine q1.congr fun j => adH_congr _ _ _ j ?_
      rw [dropH_lk]
      split
      · rename_i hj
        right
        rw [List.map_append, List.mem_append]
        exact .inl (lentAds_has ks bs ls' 0 hlen hls j hj)
      · exact .inl rfl
    · rcases List.mem_append.1 ha with ha | ha
      · obtain ⟨i, b, h1, h2, h3, h4, h5⟩ := lentAds_mem _ _ _ _ _ ha
        have hi : i < ks.length := (List.getElem?_eq_some_iff.1 h1).1
        rw [Nat.zero_add] at h4
        obtain ⟨k, b', p2, p3, p4, p5, p6, p7, p8, p9, p10⟩ := hat i hi
        rw [h1] at p2
        injection p2 with p2
        rw [h2] at p3
        injection p3 with p3
        subst p3
        have hlk := lentH_lk ls' 0 i a.c h3
        rw [Nat.zero_add] at hlk
        have hblk : lk ((rcv 1000 r).2 ++ lentH ls' 0) i = some ⟨a.c, 0, true⟩ := by
          rw [rcv_lo _ (by omega)]; exact hlk
        obtain ⟨r', e1, e2⟩ := C.blk i _ hblk
        rw [hm' i hi] at e1
        injection e1 with e1
        subst e1
        refine ⟨rows i, by rw [h4]; exact hm' i hi, .inr (by rw [p2]; exact p5), fun m2 => ?_, fun j bj rj hj f1 f2 f3 f4 _ => ?_⟩
        · refine (e2 (by simp)).tr (hlt _ (List.mem_of_getElem? h3)) fun _ _ _ => ?_
          rw [h5]
          exact (p9.row (by omega) p10).1
        · rw [dropH_lk] at f1
          split at f1
          · injection f1 with f1; subst f1; simp at f3
          · rename_i hjk
            exact hlent _ ⟨i, hi, rfl⟩ j bj rj f1 f2 f3 f4 hjk
      · obtain ⟨i, hi, e1, e2, e3⟩ := frA_mem ha
        have hlk := rcv_lk (lentH ls' 0) ha
        obtain ⟨r', e4, e5⟩ := C.blk _ _ hlk
        have hB := e5 (by simp)
        have hge : 0 < r'.cap → w.heap.size ≤ r'.g := fun hc => (hB.row (by simp) hc).1
        refine ⟨r', e4, .inl ?_, fun m2 => ?_, fun j bj rj hj f1 f2 f3 f4 f5 => ?_⟩
        · refine hMd.dom _ ?_
          rw [dropH_lk, if_neg ?_]
          · rw [e1]; exact hfr i hi
          · intro hk
            obtain ⟨p, hp, e⟩ := List.getElem_of_mem hk
            obtain ⟨b, _, h2, _⟩ := hks p a.k (by rw [← e]; exact List.getElem?_eq_getElem hp)
            rw [e1, hfr i hi] at h2
            cases h2
        · refine hB.tr (RT_frA hr ha) fun _ hc _ => ?_
          rw [e3]
          show X.w0.heap.size ≤ r'.g
          have := hge hc
          omega
        · rw [dropH_lk] at f1
          split at f1
          · injection f1 with f1; subst f1; simp at f3
          · have := hM.lt f1 f2 f3 f4
            have := hge f5
            omega
    · rw [List.map_append, List.nodup_append]
      refine ⟨(lentAds_keys ks bs ls' 0).nodup hnd, frA_keys fr r, fun k hk k' hk' e => ?_⟩
      subst e
      have hk1 := (lentAds_keys ks bs ls' 0).subset hk
      obtain ⟨p, hp, e⟩ := List.getElem_of_mem hk1
      obtain ⟨b, _, h2, _⟩ := hks p k (by rw [← e]; exact List.getElem?_eq_getElem hp)
      obtain ⟨a, ha, rfl⟩ := List.mem_map.1 hk'
      obtain ⟨i, hi, e1, _⟩ := frA_mem ha
      rw [e1, hfr i hi] at h2
      cases h2
    · obtain ⟨la, g1, g2⟩ := hq a ha
      obtain ⟨lb, g3, g4⟩ := hq b hb
      have hqq := C.inj a.q b.q _ _ ra rb g1 g3 h1 h2 (by simp) (by simp) h3 h4 h5
      rcases g2 with ⟨g5, g6⟩ | ⟨g5, g6⟩ <;> rcases g4 with ⟨g7, g8⟩ | ⟨g7, g8⟩
      · rw [hqq, g8] at g6
        injection g6 with g6
        exact g6.symm
      · omega
      · omega
      · rw [g6, g8, hqq]
theorem call_core (hM : Mem X H S m w) {ks : List Nat} (h1000 : ks.length < 1000) {bs : List Blk} {rows : Nat → Row} (hlen : bs.length = ks.length) (hks : ∀ p k, ks[p]? = some k → ∃ b, bs[p]? = some b ∧ lk H k = some b ∧ m k = some (rows p) ∧ b.mode = 0 ∧ 0 < cN b.c ∧ TrC b.c) (hnd : ks.Nodup)
    {f : FuncId} {args : List AV} {r : AV} {ls' : List AV} (hS : FnS P f args (bs.map (·.c)) r ls') (hls : ls'.length = ks.length) (hlt : ∀ c ∈ ls', TrC c) (hr : RT r) {fr : Nat} (hfr : ∀ i, i < nFr r → lk H (fr + i) = none)
    {vs : Array Value} (hvs : vs.size = args.length) (hargs : ∀ (j : Nat) (x : AV) (v : Value), args[j]? = some x → vs[j]? = some v → VR w S (mL ks.length rows) x v) :
    Calls P f vs w fun e w' => ∃ v S' m2, e = .returned v ∧ Adv S m w S' m2 w' ∧ Mem X (adH (lentAds ks bs ls' 0 ++ frA fr 1000 r) H) S' m2 w' ∧ VR w' S' m2 (rcv fr r).1 v :=
  (call_coreE hM h1000 hlen hks hnd (hS.toE (I := Unit) (p := fun _ => True) (r' := fun _ => r) (ls2 := fun _ => ls') () trivial rfl rfl) (fun _ _ => hls) (fun _ _ => hlt) (fun _ _ => hr) (fun _ _ => hfr) hvs hargs).mono fun _ _ ⟨_, _, h⟩ => h
end
end Go.TravelAbs
