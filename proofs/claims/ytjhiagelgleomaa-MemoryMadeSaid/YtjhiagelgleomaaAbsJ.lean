import Derived.Test.YtjhiagelgleomaaAbsI
import Derived.Deep.OwnRows
namespace Go.TravelAbs
open Go.RowKit Go.TravelBase
set_option linter.unusedVariables false
set_option linter.unusedSimpArgs false

section
variable {P : Program} {ty : Ty} {X : Cx} {H : List (Nat × Blk)} {S : CSet} {m : RMap} {w : World}
/-! ### copy -/
theorem cpA_N {a b : AV} {i k : Nat} (h : cpOK a b) (hk : k ≤ cN b) (hi : i + k ≤ cN a) : cN (cpA a i b k) = cN a ∧ cE (cpA a i b k) = cE a := by
  unfold cpOK at h
  split at h
  · simp only [cN] at hk hi ⊢; simp [cpA, cN, cE]; omega
  · simp only [cN] at hk hi ⊢; simp [cpA, cN, cE]; omega
  · exact h.elim
theorem list_cp {α : Type} {x y : List α} {i k p : Nat} (hk : k ≤ y.length) (hi : i + k ≤ x.length) : (x.take i ++ y.take k ++ x.drop (i + k))[p]? = if i ≤ p ∧ p < i + k then y[p - i]? else x[p]? := by
  split
  · rename_i h
    rw [List.append_assoc, List.getElem?_append_right (by simp; omega), List.length_take, Nat.min_eq_left (by omega), List.getElem?_append_left (by simp; omega), List.getElem?_take, if_pos (by omega)]
  · rename_i h
    rcases Nat.lt_or_ge p i with hp | hp
    · rw [List.append_assoc, List.getElem?_append_left (by simp; omega), List.getElem?_take, if_pos hp]
    · rw [List.getElem?_append_right (by simp; omega), List.getElem?_drop]
      simp only [List.length_append, List.length_take]
      rw [Nat.min_eq_left (by omega), Nat.min_eq_left (by omega), show i + k + (p - (i + k)) = p by omega]
theorem cpA_at {a b : AV} {i k p : Nat} (h : cpOK a b) (hk : k ≤ cN b) (hi : i + k ≤ cN a) : cAt (cpA a i b k) p = if i ≤ p ∧ p < i + k then cAt b (p - i) else cAt a p := by
  unfold cpOK at h
  split at h
  · simp only [cN] at hk hi
    simp only [cpA, cAt, List.getD, list_cp hk hi]
    split <;> rfl
  · simp only [cN] at hk hi
    simp only [cpA, cAt, List.getD, list_cp hk hi]
    split <;> rfl
  · exact h.elim
theorem LR.pre {c : AV} {A : Option Addr} {n cap : Nat} (h : LR w S m c (.slice A n cap)) {k : Nat} (hk : k ≤ cN c) : LR w S m (sub c 0 k) (.slice A k cap) := by
  obtain ⟨A', n', cap', e, hn, hcap, hr⟩ := h
  injection e with e1 e2 e3
  subst e1 e2 e3
  refine ⟨A, k, cap, rfl, sub_len (by omega), by omega, ?_⟩
  rcases Nat.eq_zero_or_pos k with h0 | hpos
  · exact .inl h0
  · right
    rcases hr with h | ⟨b, off, hA, hr⟩
    · omega
    · refine ⟨b, off, hA, fun i hi => ?_⟩
      obtain ⟨e1, e2⟩ := sub_at (c := c) (i := 0) (n := k) (j := i) (by omega) hi
      rw [e1, e2, Nat.zero_add]
      exact hr i (by omega)
theorem okL_sub {c : AV} (h : okL c) (k : Nat) : okL (sub c 0 k) := by
  cases c with
  | by_ bs => trivial
  | li es xs => exact fun x hx => h x (List.mem_of_mem_drop (List.mem_of_mem_take hx))
  | _ => exact h.elim
theorem copy_ok (hT : TysOK P ty) (hM : Mem X H S m w) {t u e e' : TypeId} {te : TI} (hu : P.underlying t = some (.slice e)) (hu' : P.underlying u = some (.slice e')) (hte : ty e = some te) {c : AV} {v vs : Value} (hc : LR w S m c v)
    {k es i n : Nat} (hvs : VR w S m (.sl k es i n) vs) {b : Blk} (hb : lk H k = some b)
    (hok : okL c) (hcp : cpOK b.c c) (he : cE c = te.size) (hes : es = te.size) (h0s : 0 < te.size) (hn : i + n ≤ cN b.c) (hmd : b.mode = 0) (T : TypeId) (vc : Prop) :
    Post X H S m w ⟨.lit (.int .i64 (min (cN c) n : Nat)), [(k, ⟨cpA b.c i c (min (cN c) n), 0, b.ln⟩)], vc⟩ ((do pure (.value (← Builtin.copy_ #[t, u] T #[vs, v])) : Sem Next).run P w) := by
  obtain ⟨ie, d, z, hie, _, hs, _⟩ := (hT _ _ hte).ok
  obtain ⟨r, A, hr, hres, hcap, hcmax, hA, hA0, rfl⟩ := hvs.sl_inv
  obtain ⟨r', h1, h2⟩ := hM.blk k b hb
  rw [hr] at h1
  injection h1 with h1
  subst h1
  have hB := h2 (by omega)
  have hv : ∃ A' cap', v = .slice A' (cN c) cap' := by
    obtain ⟨A', n', cap', h, h', _⟩ := hc
    exact ⟨A', cap', by rw [h, h']⟩
  obtain ⟨A', cap', rfl⟩ := hv
  have hmin : min (cN c) n ≤ cN c := Nat.min_le_left _ _
  have hmin' : min (cN c) n ≤ n := Nat.min_le_right _ _
  generalize hkk : min (cN c) n = kk at hmin hmin'
  have hsubN : cN (sub c 0 kk) = kk := sub_len (by omega)
  have hsubE : cN (sub c 0 kk) = 0 ∨ cE (sub c 0 kk) = te.size := by
    right
    cases c <;> first | exact he | (simp only [cpOK] at hcp; exact hcp.elim) | exact (by unfold cpOK at hcp; split at hcp <;> first | exact hcp.elim | contradiction)
  obtain ⟨news, hsrc, hha⟩ := (hc.pre hmin).news (P := P) hsubE (okL_sub hok kk) hu'
  rw [hsubN] at hsrc
  have hnl : news.length = kk * te.size := hsrc.newsLen
  have hfirst : (Builtin.firstCells te.size kk (.slice A' (cN c) cap')).run P w = .ok news.toArray w := by
    have h := hsrc.cells
    cases A' <;> exact h
  have hlenof : Nat.min (cN c) n = kk := hkk
  obtain ⟨c1, c2⟩ := cpA_N hcp hmin (i := i) (by omega)
  have hr1 : (Builtin.copy_ #[t, u] T #[.slice A n (r.cap - i), .slice A' (cN c) cap']).run P w = (match A with | some a => (storeCells a news).run P w | none => .ok () w).andThen (fun _ w' => .ok (goInt (kk : Nat)) w') := by
    cases A <;> simp [Builtin.copy_, run_underlying hu, sizeOf, typeInfo, hie, hs, Builtin.lenOf, hlenof, hfirst]
  rcases Nat.eq_zero_or_pos kk with hk0 | hkpos
  · -- nothing is copied
    have hnil : news = [] := List.eq_nil_of_length_eq_zero (by rw [hnl, hk0]; simp)
    subst hnil
    have hr2 : (Builtin.copy_ #[t, u] T #[.slice A n (r.cap - i), .slice A' (cN c) cap']).run P w = .ok (goInt (kk : Nat)) w := by
      rw [hr1]
      cases A <;> rfl
    have hM' : Mem X ((k, ⟨cpA b.c i c kk, 0, b.ln⟩) :: H) S m w := by
      have e : mset m k r = m := by
        funext j
        unfold mset
        split
        · rename_i e; rw [e, hr]
        · rfl
      have := hM.upd (S' := S) (w' := w) k ⟨cpA b.c i c kk, 0, b.ln⟩ r (.inr hr) (fun b o hb => ⟨hb, rfl⟩) hM.frm hM.s1 hM.slt (fun j bj rj hj h1 h2 h3 h4 => ⟨rfl, fun _ q => q, fun h5 h6 => hM.apart hb hr (by omega) h6 h1 h2 h3 h4 hj⟩) (fun _ => by
        rw [e]
        refine ⟨hB.es.trans c2.symm, by show cN _ ≤ _; rw [c1]; exact hB.len, hB.max, fun p hp => ?_, fun h => by simp at h, fun _ hc => ?_⟩
        · have hp' : p < cN (cpA b.c i c kk) := hp
          rw [c1] at hp'
          show (cAt (cpA b.c i c kk) p).cl.length = r.es ∧ _
          rw [cpA_at hcp hmin (by omega), if_neg (by omega)]
          exact hB.rd p hp'
        · obtain ⟨q1, q2, q3⟩ := hB.row (by omega) hc
          exact ⟨q1, q2, fun o _ => q3 o (.inl hmd)⟩)
      rwa [e] at this
    exact ⟨_, w, S, m, .inl (by simp [hr2]; rfl), Adv.refl _ _ _, hM', .lit _⟩
  · have hlen := hB.len
    have hAe := hA (by omega)
    subst hAe
    obtain ⟨q1, ⟨cur, T', q2, q3⟩, q4⟩ := hB.row (by omega) (by omega)
    have hin : i * r.es + news.length ≤ r.cap * r.es := by
      have : (i + kk) * r.es ≤ r.cap * r.es := Nat.mul_le_mul_right _ (by omega)
      rw [Nat.add_mul] at this
      rw [hnl]
      have : te.size = r.es := by omega
      rw [this]
      omega
    have hcell : ∀ j, j < news.length → (w.cell? ⟨r.g, i * r.es + j, none⟩).isSome = true := by
      intro j hj
      have hlt : i * r.es + j < cur.size := by omega
      unfold World.cell?
      rw [q2]
      simp [hlt]
    have hfz : ∀ j, j < news.length → w.frozen? ⟨r.g, i * r.es + j, none⟩ = false := by
      intro j hj
      unfold World.frozen?
      rw [q2]
      simp
    have hst := run_storeCells_cells (P := P) r.g (i * r.es) news 0 w (by simpa using hcell) (by simpa using hfz) hsrc.one
    simp only [Nat.add_zero] at hst
    have hr2 : (Builtin.copy_ #[t, u] T #[.slice (some ⟨r.g, i * r.es, none⟩) n (r.cap - i), .slice A' (cN c) cap']).run P w = .ok (goInt (kk : Nat)) (w.setCells r.g (i * r.es) news) := by
      rw [hr1]
      simp [hst]
    have hput := hM.put hb hr hmd (c' := cpA b.c i c kk) (o := i * r.es) (vs := news) c1 c2 (fun e => by rw [e] at hnl; simp at hnl; have := Nat.mul_pos hkpos h0s; omega) (by omega) hin (fun p hp => ?_)
    · obtain ⟨hM', hadv⟩ := hput
      exact ⟨_, _, S, m, .inl (by simp [hr2]; rfl), hadv, hM', .lit _⟩
    · rw [c1] at hp
      rw [cpA_at hcp hmin (by omega)]
      split
      · rename_i hpi
        obtain ⟨d, rfl⟩ : ∃ d, p = i + d := ⟨p - i, by omega⟩
        rw [Nat.add_sub_cancel_left]
        obtain ⟨h5, h6⟩ := hha d (by rw [hsubN]; omega)
        obtain ⟨e1, _⟩ := sub_at (c := c) (i := 0) (n := kk) (j := d) (by omega) (by omega)
        rw [e1, Nat.zero_add] at h5 h6
        have : te.size = r.es := by omega
        rw [this] at h5 h6
        refine ⟨h5, fun j y hy => ?_⟩
        obtain ⟨u, h7, h8⟩ := h6 j y hy
        refine ⟨u, ?_, h8⟩
        simp only [List.getElem?_toArray] at h7
        obtain ⟨hlt, h9⟩ := List.getElem?_eq_some_iff.1 h7
        have := World.cell?_setCells_in r.g news (i * r.es) w hcell (d * r.es + j) hlt
        rw [Nat.add_mul, Nat.add_assoc, this, h9]
      · rename_i hpi
        obtain ⟨h5, h6⟩ := hB.rd p hp
        refine ⟨h5, fun j y hy => ?_⟩
        obtain ⟨u, h7, h8⟩ := h6 j y hy
        refine ⟨u, ?_, h8⟩
        have hj : j < r.es := by rw [← h5]; exact (List.getElem?_eq_some_iff.1 hy).1
        rw [World.cell?_setCells_out r.g _ _ _ _ (fun _ _ => ?_)]
        · exact h7
        · simp only
          have hh : news.length = kk * r.es := by rw [hnl]; congr 1; omega
          rcases Nat.lt_or_ge p i with hlt | hge
          · left
            have : (p + 1) * r.es ≤ i * r.es := Nat.mul_le_mul_right _ hlt
            rw [Nat.add_mul] at this
            omega
          · right
            have : (i + kk) * r.es ≤ p * r.es := Nat.mul_le_mul_right _ (by omega)
            rw [Nat.add_mul] at this
            omega
/-! ### make -/
theorem mkC_at {te : TI} {xs : List AV} (h : mkOK te xs) {i : Nat} (hi : i < xs.length) : cAt (mkC te xs) i = xs.getD i .any := by
  unfold mkC
  split
  · rename_i hu
    have := h.2 hu (xs.getD i .any) (List.mem_of_getElem? (getD_of_lt hi))
    simp only [cAt]
    rw [this]
    simp [List.getD, List.getElem?_eq_getElem hi] at this ⊢
  · rfl
theorem mkC_N (te : TI) (xs : List AV) : cN (mkC te xs) = xs.length := by unfold mkC; split <;> simp [cN]
theorem mkC_E {te : TI} {xs : List AV} (h : mkOK te xs) (hu : isU8 te = true → te.size = 1) : cE (mkC te xs) = te.size := by
  unfold mkC
  split
  · rename_i h1; exact (hu h1).symm
  · rfl
theorem make_ok (hT : TysOK P ty) (hM : Mem X H S m w) {t e : TypeId} {te : TI} (hu : P.underlying t = some (.slice e)) (hte : ty e = some te) {fr : Nat} (hfr : lk H fr = none) (kl kc : IntKind) {x : Int} (h0 : 0 ≤ x) (hb : te.bytes * x ≤ 140737488355328) (hx : x ≤ 9223372036854775807)
    (h1 : te.size = 1) (hz : zOK te = true) (hrow : te.kind.row = false) (h8 : isU8 te = true → te.zero = [.int .u8 0]) (vc : Prop) :
    Post X H S m w ⟨.sl fr te.size 0 x.toNat, [(fr, ⟨mkC te (List.replicate x.toNat (zeroA te)), 0, false⟩)], vc⟩ ((do pure (.value (← Instr.makeSlice t (.int kl x) (.int kc x))) : Sem Next).run P w) := by
  obtain ⟨i, d, z, hi, _, hs, hbi, hzz, hcells, _⟩ := (hT _ _ hte).ok
  obtain ⟨z1, z2, z3, z4⟩ := zOK_iff hz
  obtain ⟨n, rfl⟩ := Int.eq_ofNat_of_zero_le h0
  rw [Int.toNat_natCast]
  have hlen : te.zero.length = 1 := by omega
  obtain ⟨zz, hzl⟩ := List.length_eq_one_iff.1 hlen
  have hzc : z.cells = #[zz] := by
    apply Array.ext'
    rw [hcells, hzl]
  have hzone : zz.oneCell' = true := z2 zz (by rw [hzl]; simp)
  have hzA : zeroA te = .lit zz := by unfold zeroA; rw [hrow, hzl]; rfl
  have hmk : mkOK te (List.replicate n (zeroA te)) := by
    refine ⟨fun y hy => ?_, fun hu8 y hy => ?_⟩
    · obtain rfl := List.eq_of_mem_replicate hy
      rw [hzA]
      exact ⟨by simp [okc, AV.cl, AV.one, hzone], h1.symm⟩
    · obtain rfl := List.eq_of_mem_replicate hy
      have := h8 hu8
      rw [hzl] at this
      injection this with this
      rw [hzA, this]
      rfl
  have hrun := run_make (P := P) w t e i z hu hi hzz kl kc (n : Int) (n : Int) (by omega) (Int.le_refl _) (by rw [hbi]; omega) hx
  rw [Int.toNat_natCast, hs, h1, Nat.mul_one, hzc] at hrun
  have hha : HA w S m te.size (mkC te (List.replicate n (zeroA te))) (madeCells #[zz] n) := by
    intro p hp
    rw [mkC_N, List.length_replicate] at hp
    rw [mkC_at hmk (by simpa using hp)]
    have e1 : (List.replicate n (zeroA te)).getD p .any = .lit zz := by simp [List.getD, hp, hzA]
    rw [e1]
    refine ⟨h1.symm, fun j y hy => ?_⟩
    match j, hy with
    | 0, hy =>
      simp [AV.cl] at hy
      subst hy
      refine ⟨zz, ?_, .lit _⟩
      rw [h1]
      simp [madeCells, hp, Nat.mod_one]
  obtain ⟨hM', hadv⟩ := hM.new hfr e (cap := n) (es := te.size) (cur := madeCells #[zz] n) (by rw [size_madeCells, h1, Nat.mul_one]) (mkC_E hmk fun _ => h1) (by rw [mkC_N]; simp) (by have : maxLen = 9223372036854775807 := rfl; omega) hha
  refine ⟨.slice (some ⟨w.heap.size, 0, none⟩) n n, _, S, _, .inl ?_, hadv, hM', ?_⟩
  · simp [hrun]
  · exact .sl (k := fr) (es := te.size) (i := 0) (n := n) (r := ⟨w.heap.size, n, te.size⟩) (A := some ⟨w.heap.size, 0, none⟩) (by simp [mset]) rfl (by simp) (by have : maxLen = 9223372036854775807 := rfl; show n ≤ _; omega) (fun _ => by simp) (fun h => by cases h)
/-! ### Literals -/
theorem foldl_put (off : Nat) : ∀ (l : List Value) (n : Nat) (cs : Array Value), off + n + l.length ≤ cs.size →
    ((l.zipIdx n).foldl (fun cs (c, j) => cs.setIfInBounds (off + j) c) cs).size = cs.size ∧ ∀ k : Nat, ((l.zipIdx n).foldl (fun cs (c, j) => cs.setIfInBounds (off + j) c) cs)[k]? = if off + n ≤ k ∧ k < off + n + l.length then l[k - (off + n)]? else cs[k]?
  | [], n, cs, _ => ⟨rfl, fun k => by rw [if_neg (by simp only [List.length_nil]; omega)]; rfl⟩
  | v :: l, n, cs, h => by
    simp only [List.length_cons] at h
    obtain ⟨h1, h2⟩ := foldl_put off l (n + 1) (cs.setIfInBounds (off + n) v) (by simp; omega)
    simp only [List.zipIdx_cons, List.foldl_cons]
    refine ⟨by rw [h1]; simp, fun k => ?_⟩
    rw [h2 k]
    simp only [List.length_cons]
    by_cases hk : k = off + n
    · subst hk
      rw [if_neg (by omega), if_pos (by omega), Nat.sub_self]
      rw [Array.getElem?_setIfInBounds, if_pos rfl, if_pos (by omega)]
      rfl
    · by_cases hk2 : off + (n + 1) ≤ k ∧ k < off + (n + 1) + l.length
      · rw [if_pos hk2, if_pos (by omega), show k - (off + n) = (k - (off + (n + 1))) + 1 by omega]
        rfl
      · rw [if_neg hk2, if_neg (by omega)]
        simp [Array.getElem?_setIfInBounds]
        omega
/-- The parts of a literal, one after the other. -/
theorem fill_ok (fs : List (Nat × Nat × Bool)) (place : Nat → Option (Nat × Nat)) (hpl : ∀ i x, fs[i]? = some x → place i = some (x.1, x.2.1)) (ρ : Operand → Value) (g : Operand → AV) (hg : ∀ y, VR w S m (g y) (ρ y)) :
    ∀ (ps : List (Nat × Operand)) (cs : List AV) (cur : Array Value), cur.size = cs.length → (∀ (j : Nat) (x : AV) (u : Value), cs[j]? = some x → cur[j]? = some u → VR w S m x u) → (∀ p ∈ ps, cnd (g p.2)) → fillOK fs cs.length (ps.map fun p => (p.1, stp (g p.2))) →
      ∃ cur', Instr.fill place cur (ps.map fun p => (p.1, ρ p.2)) = some cur' ∧ cur'.size = cur.size ∧ (fillA fs cs (ps.map fun p => (p.1, stp (g p.2)))).length = cs.length ∧
        ∀ (j : Nat) (x : AV) (u : Value), (fillA fs cs (ps.map fun p => (p.1, stp (g p.2))))[j]? = some x → cur'[j]? = some u → VR w S m x u
  | [], cs, cur, hsz, hp, _, _ => ⟨cur, rfl, rfl, rfl, hp⟩
  | p :: ps, cs, cur, hsz, hp, hc, hok => by
    have h1 := hok (p.1, stp (g p.2)) (by simp)
    obtain ⟨a1, a2, a3, a4, a5⟩ := h1
    simp only at a1 a2 a3 a4 a5
    have hfs := getD_of_lt (d := (0, 0, false)) a1
    have hplace := hpl _ _ hfs
    generalize hx : fs.getD p.1 (0, 0, false) = x at hfs a3 a4 a5 hplace
    obtain ⟨o, s, r⟩ := x
    simp only at a3 a4 a5 hplace
    obtain ⟨v1, v2, v3⟩ := cells_of ((hg p.2).strip (hc p (by simp))) a2
    have hvs : (ρ p.2).cells.size = s := by rw [v1, a3]
    obtain ⟨f1, f2⟩ := foldl_put o (ρ p.2).cells.toList 0 cur (by simp; omega)
    have hlen : (putL cs o (stp (g p.2)).cl).length = cs.length := by simp [putL]; omega
    have hfl := fill_ok fs place hpl ρ g hg ps (putL cs o (stp (g p.2)).cl) _ (by rw [f1, hsz, hlen]) (fun j y u hy hu => ?_) (fun q hq => hc q (by simp [hq])) (fun q hq => by rw [hlen]; exact hok q (by simp [hq]))
    · obtain ⟨cur', q1, q2, q3, q4⟩ := hfl
      refine ⟨cur', ?_, by rw [q2, f1], ?_, ?_⟩
      · simp only [List.map_cons, Instr.fill, hplace]
        rw [if_neg (by simp [hvs]; omega)]
        have e : (ρ p.2).cells.zipIdx.foldl (fun cs (c, j) => cs.setIfInBounds (o + j) c) cur = ((ρ p.2).cells.toList.zipIdx 0).foldl (fun cs (c, j) => cs.setIfInBounds (o + j) c) cur := by
          rw [← Array.foldl_toList, Array.toList_zipIdx]
        rw [e]
        exact q1
      · simp only [List.map_cons, fillA, hx]
        rw [q3, hlen]
      · simp only [List.map_cons, fillA, hx]
        exact q4
    · rw [f2 j] at hu
      simp only [Nat.add_zero, Array.length_toList, hvs] at hu
      unfold putL at hy
      split at hu
      · rename_i hj
        obtain ⟨d, rfl⟩ : ∃ d, j = o + d := ⟨j - o, by omega⟩
        rw [Nat.add_sub_cancel_left] at hu
        rw [List.append_assoc, List.getElem?_append_right (by simp; omega), List.length_take, Nat.min_eq_left (by omega), Nat.add_sub_cancel_left, List.getElem?_append_left (by omega)] at hy
        obtain ⟨u', h7, h8⟩ := v2 d y hy
        have : u = u' := by
          have h9 : (ρ p.2).cells[d]? = some u := by simpa using hu
          rw [h7] at h9
          injection h9 with h9
          exact h9.symm
        rw [this]
        exact h8
      · rename_i hj
        refine hp j y u ?_ hu
        rcases Nat.lt_or_ge j o with hlt | hge
        · rw [List.append_assoc, List.getElem?_append_left (by simp; omega), List.getElem?_take, if_pos hlt] at hy
          exact hy
        · rw [List.getElem?_append_right (by simp; omega), List.getElem?_drop] at hy
          simp only [List.length_append, List.length_take] at hy
          rw [a3, Nat.min_eq_left (by omega), show o + s + (j - (o + s)) = j by omega] at hy
          exact hy
end
end Go.TravelAbs
