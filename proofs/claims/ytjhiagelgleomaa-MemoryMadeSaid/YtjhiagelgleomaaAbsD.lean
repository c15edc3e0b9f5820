import Derived.Test.YtjhiagelgleomaaAbsC
namespace Go.TravelAbs
open Go.RowKit Go.TravelBase
set_option linter.unusedVariables false
set_option linter.unusedSimpArgs false

section
variable {P : Program} {ty : Ty} {w : World} {S : CSet} {m : RMap}
theorem VR.sl_inv {k es i n : Nat} {u : Value} (h : VR w S m (.sl k es i n) u) :
    ∃ r A, m k = some r ∧ r.es = es ∧ i + n ≤ r.cap ∧ r.cap ≤ maxLen ∧ (i < r.cap → A = some ⟨r.g, i * r.es, none⟩) ∧ (A = none → r.cap - i = 0) ∧ u = .slice A n (r.cap - i) := by
  cases h with
  | sl h1 h2 h3 h4 h5 h6 => exact ⟨_, _, h1, h2, h3, h4, h5, h6, rfl⟩
theorem VR.ptr_inv {k i off : Nat} {u : Value} (h : VR w S m (.ptr k i off) u) : ∃ r, m k = some r ∧ u = .pointer (some ⟨r.g, i * r.es + off, none⟩) := by
  cases h with
  | ptr h => exact ⟨_, h, rfl⟩
theorem VR.ep_shift {x : AV} {off : Nat} {u : Value} (h : VR w S m (.ep x off) u) (d : Nat) : ∃ a, u = .pointer (some a) ∧ VR w S m (.ep x (off + d)) (.pointer (some (a.add d))) := by
  cases h with
  | ep us hA h =>
    refine ⟨_, rfl, ?_⟩
    rw [add_mid, Nat.add_assoc]
    exact .ep us hA h
theorem VR.ptr_shift {k i off : Nat} {u : Value} (h : VR w S m (.ptr k i off) u) (d : Nat) : ∃ a, u = .pointer (some a) ∧ VR w S m (.ptr k i (off + d)) (.pointer (some (a.add d))) := by
  cases h with
  | ptr h =>
    refine ⟨_, rfl, ?_⟩
    rw [add_mid, Nat.add_assoc]
    exact .ptr h
theorem bound_lo {g : Operand → AV} {ρ : Operand → Value} (hg : ∀ y, VR w S m (g y) (ρ y)) {lo : Option Operand} {l : Int} (hl : (match lo with | none => some 0 | some l => idx (stp (g l))) = some l) (hc : ∀ y ∈ lo, cnd (g y)) :
    lo = none ∧ l = 0 ∨ ∃ y k, lo = some y ∧ ρ y = .int k l := by
  cases lo with
  | none => left; exact ⟨rfl, by simpa using hl.symm⟩
  | some y =>
    right
    obtain ⟨k, hk⟩ := idx_inv ((hg y).strip (hc y rfl)) hl
    exact ⟨y, k, rfl, hk⟩
theorem bound_hi {g : Operand → AV} {ρ : Operand → Value} (hg : ∀ y, VR w S m (g y) (ρ y)) {hi : Option Operand} {h : Option Int} (hh : (match hi with | none => some (none : Option Int) | some h => (idx (stp (g h))).map some) = some h) (hc : ∀ y ∈ hi, cnd (g y)) :
    hi = none ∧ h = none ∨ ∃ y k z, hi = some y ∧ ρ y = .int k z ∧ h = some z := by
  cases hi with
  | none => left; exact ⟨rfl, by simpa using hh.symm⟩
  | some y =>
    right
    obtain ⟨z, h1, h2⟩ := Option.map_eq_some_iff.1 hh
    obtain ⟨k, hk⟩ := idx_inv ((hg y).strip (hc y rfl)) h1
    exact ⟨y, k, z, rfl, hk, h2.symm⟩
/-- A slice of a slice. -/
theorem run_slice_ok {t e : TypeId} {te : TI} (ht : P.underlying t = some (.slice e)) (he : TyOK P e te) (A : Option Addr) (n c : Nat) (lo hi : Option Value) (l h : Int)
    (hlo : lo = none ∧ l = 0 ∨ ∃ k, lo = some (.int k l)) (hhi : hi = none ∧ h = n ∨ ∃ k, hi = some (.int k h)) (h0 : 0 ≤ l) (h1 : l ≤ h) (h2 : h ≤ n) (hc : n ≤ c) :
    (Instr.sliceAt t (.slice A n c) lo hi none).run P w = .ok (.slice (if c = l.toNat then A else A.map (·.add (l.toNat * te.size))) (h.toNat - l.toNat) (c - l.toNat)) w := by
  have e1 : (h.toNat : Int) = h := Int.toNat_of_nonneg (by omega)
  have e2 : (l.toNat : Int) = l := Int.toNat_of_nonneg (by omega)
  have b1 : h ≤ (c : Int) := by omega
  have b2 : 0 ≤ h := by omega
  rcases hlo with ⟨rfl, rfl⟩ | ⟨k1, rfl⟩ <;> rcases hhi with ⟨rfl, rfl⟩ | ⟨k2, rfl⟩ <;>
    simp [Instr.sliceAt, Instr.slice, run_underlying ht, Instr.sliceBounds, Instr.sliceBound, asIntOf, e1, e2, b1, b2, h0, h1, h2, run_sizeOf_ok he]
theorem part_cell {t : TypeId} {cs : Array Value} {off : Nat} {v : Value} (hr : rowB (P.underlying t) = false) (hu : ∃ d, P.underlying t = some d) (hv : cs[off]? = some v) : (part t cs off).run P w = .ok v w := by
  obtain ⟨d, hd⟩ := hu
  have : (isAgg t).run P w = .ok false w := by
    rw [hd] at hr
    unfold isAgg
    rw [Sem.run_bind, run_underlying hd w]
    cases d <;> simp_all [rowB]
  simp [part, this, hv]
theorem isAgg_true {t : TypeId} (hr : rowB (P.underlying t) = true) : (isAgg t).run P w = .ok true w := by
  cases hd : P.underlying t with
  | none => rw [hd] at hr; cases hr
  | some d =>
    rw [hd] at hr
    unfold isAgg
    rw [Sem.run_bind, run_underlying hd w]
    cases d <;> simp_all [rowB]
theorem part_agg {t : TypeId} {cs : Array Value} {off : Nat} (hr : rowB (P.underlying t) = true) (hs : fsz P t ≠ 0) : (part t cs off).run P w = .ok (.agg (cs.extract off (off + fsz P t))) w := by
  obtain ⟨⟨i, h1, h2⟩, _⟩ := size_of_getD hs
  simp [part, isAgg_true hr, sizeOf, typeInfo, h1, ← h2]
theorem VR.getD {xs : List AV} {cs : Array Value} (hl : cs.size = xs.length) (h : ∀ (j : Nat) (x : AV) (u : Value), xs[j]? = some x → cs[j]? = some u → VR w S m x u) {o : Nat} (ho : o < xs.length) :
    ∃ u, cs[o]? = some u ∧ VR w S m (xs.getD o .any) u := by
  have h1 : o < cs.size := by omega
  exact ⟨cs[o], Array.getElem?_eq_getElem h1, h o _ _ (getD_of_lt ho) (Array.getElem?_eq_getElem h1)⟩
theorem VR.range {xs : List AV} {cs : Array Value} (hl : cs.size = xs.length) (h : ∀ (j : Nat) (x : AV) (u : Value), xs[j]? = some x → cs[j]? = some u → VR w S m x u) {o s : Nat} (ho : o + s ≤ xs.length) :
    VR w S m (.agg ((xs.drop o).take s)) (.agg (cs.extract o (o + s))) := by
  refine .agg (by simp; omega) fun j x u hx hu => ?_
  rw [Array.getElem?_extract] at hu
  rw [List.getElem?_take] at hx
  split at hx
  · rename_i hj
    rw [List.getElem?_drop] at hx
    split at hu
    · exact h _ _ _ hx hu
    · cases hu
  · cases hx
theorem VR.caps {g : Operand → AV} {ρ : Operand → Value} (hg : ∀ y, VR w S m (g y) (ρ y)) {l : Array Operand} (hc : ∀ x ∈ l.toList, cnd (g x)) :
    (l.map ρ).size = (l.toList.map fun x => stp (g x)).length ∧ ∀ (j : Nat) (x : AV) (u : Value), (l.toList.map fun x => stp (g x))[j]? = some x → (l.map ρ)[j]? = some u → VR w S m x u := by
  refine ⟨by simp, fun j x u hx hu => ?_⟩
  rw [List.getElem?_map] at hx
  rw [Array.getElem?_map] at hu
  obtain ⟨y, h1, rfl⟩ := Option.map_eq_some_iff.1 hx
  obtain ⟨y', h2, rfl⟩ := Option.map_eq_some_iff.1 hu
  have : y = y' := by
    rw [Array.getElem?_toList] at h1
    rw [h1] at h2
    injection h2
  subst this
  exact (hg y).strip (hc y (List.mem_of_getElem? h1))
theorem row_of {t : TypeId} {ti : TI} (h : TyOK P t ti) : rowB (P.underlying t) = ti.kind.row ∧ ∃ d, P.underlying t = some d := by
  obtain ⟨i, d, z, _, hu, _, _, _, _, hk⟩ := h.ok
  refine ⟨?_, d, hu⟩
  rw [hu]
  cases hti : ti.kind <;> rw [hti] at hk <;> simp only [KOK] at hk
  case one => rw [hk]; rfl
  case struct fs => obtain ⟨_, rfl, _⟩ := hk; rfl
  all_goals subst hk; rfl
theorem str_get {s : ByteArray} {i : Nat} (hi : i < s.size) : s[i]? = some (s.data.toList.getD i 0) := by
  have h : i < s.data.toList.length := by simpa using hi
  have e : s[i]? = some s[i] := by
    show (if h : i < s.size then some s[i] else none) = _
    rw [dif_pos hi]
  rw [e]
  simp [List.getD, List.getElem?_eq_getElem h]
  rfl
theorem Lies.drop {A : Option Addr} {n c es i k : Nat} {us : Nat → Value} (h : Lies w S A (n * es) us) (hi : i + k ≤ n) (hc : n ≤ c) :
    Lies w S (if c = i then A else A.map (·.add (i * es))) (k * es) (fun j => us (i * es + j)) := by
  rcases Nat.eq_zero_or_pos (k * es) with hk | hk
  · exact .inl hk
  · have hle : i * es + k * es ≤ n * es := by rw [← Nat.add_mul]; exact Nat.mul_le_mul_right es hi
    obtain ⟨b, off, rfl, h1⟩ := h.at_ (by omega)
    have hk0 : 0 < k := Nat.pos_of_mul_pos_right hk
    rw [if_neg (by omega)]
    refine .inr ⟨b, off + i * es, by simp [add_mid], fun j hj => ?_⟩
    rw [Nat.add_assoc]
    exact h1 _ (by omega)
theorem addr_none {A : Option Addr} {c l s : Nat} (h0 : A = none → c = 0) : (if c = l then A else A.map (·.add (l * s))) = none → c - l = 0 := by
  intro h
  split at h
  · omega
  · have := h0 (by simpa using h)
    omega
theorem VR.by_sub {bs : List UInt8} {u : Value} (hv : VR w S m (.by_ bs) u) : ∃ A n c, u = .slice A n c ∧ bs.length = n ∧ n ≤ c ∧
    ∀ l h, l ≤ h → h ≤ n → VR w S m (.by_ ((bs.take h).drop l)) (.slice (if c = l then A else A.map (·.add (l * 1))) (h - l) (c - l)) := by
  cases hv with
  | by_ hn hc hm h0 hA =>
    rename_i A n c
    refine ⟨A, n, c, rfl, hn, hc, fun l h h1 h2 => ?_⟩
    rw [← Nat.mul_one n] at hA
    have hl := hA.drop (c := c) (i := l) (k := h - l) (by omega) hc
    rw [Nat.mul_one (h - l)] at hl
    refine .by_ (by simp; omega) (by omega) (by omega) (addr_none h0) ?_
    rcases hl with hl | ⟨b, off, e, hl⟩
    · exact .inl hl
    · refine .inr ⟨b, off, e, fun i hi => ⟨(hl i hi).1, (hl i hi).2.trans ?_⟩⟩
      simp only [Nat.mul_one]
      congr 3
      simp only [List.getD]
      rw [List.getElem?_drop, List.getElem?_take, if_pos (by omega)]
theorem VR.li_sub {es : Nat} {xs : List AV} {u : Value} (hv : VR w S m (.li es xs) u) : ∃ A n c, u = .slice A n c ∧ xs.length = n ∧ n ≤ c ∧
    ∀ l h, l ≤ h → h ≤ n → VR w S m (.li es ((xs.take h).drop l)) (.slice (if c = l then A else A.map (·.add (l * es))) (h - l) (c - l)) := by
  cases hv with
  | li us hn hc hm h0 hes0 he hA hh =>
    rename_i A n c
    refine ⟨A, n, c, rfl, hn, hc, fun l h h1 h2 => ?_⟩
    have hl := hA.drop (c := c) (i := l) (k := h - l) (by omega) hc
    refine .li _ (by simp; omega) (by omega) (by omega) (addr_none h0) hes0 (fun x hx => he x (List.mem_of_mem_take (List.mem_of_mem_drop hx))) hl ?_
    intro i j x y hx hy
    have hx2 : xs[l + i]? = some x := by
      rw [List.getElem?_drop, List.getElem?_take] at hx
      split at hx
      · exact hx
      · cases hx
    have := hh (l + i) j x y hx2 hy
    rw [Nat.add_mul, Nat.add_assoc] at this
    exact this
theorem VR.sl_sub {k es i n : Nat} {u : Value} (hv : VR w S m (.sl k es i n) u) : ∃ A c, u = .slice A n c ∧ n ≤ c ∧
    ∀ l h, l ≤ h → h ≤ n → VR w S m (.sl k es (i + l) (h - l)) (.slice (if c = l then A else A.map (·.add (l * es))) (h - l) (c - l)) := by
  obtain ⟨r, A, h1, h2, h3, h4, h5, h6, rfl⟩ := hv.sl_inv
  refine ⟨A, _, rfl, by omega, fun l h h7 h8 => ?_⟩
  rw [show r.cap - i - l = r.cap - (i + l) by omega]
  refine .sl h1 h2 (by omega) h4 (fun hlt => ?_) (fun e => ?_)
  · rw [h5 (by omega), if_neg (by omega)]
    subst h2
    simp [add_mid, Nat.add_mul]
  · have := addr_none (A := A) (c := r.cap - i) h6 e
    omega
set_option maxHeartbeats 1000000 in
theorem evA_ok (hT : TysOK P ty) {g : Operand → AV} {ρ : Operand → Value} (hg : ∀ y, VR w S m (g y) (ρ y)) {o : Oper} {x : AV} {vc : Prop} (h : evA ty g o.op = some (x, vc)) (hvc : vc) :
    ∃ v, (execOp ρ o).run P w = .ok (.value v) w ∧ VR w S m x v := by
  unfold execOp
  unfold evA at h
  split at h
  · injection h with h
    simp only [Prod.mk.injEq] at h
    obtain ⟨rfl, rfl⟩ := h
    rename_i y hop
    rw [hop]
    exact ⟨_, rfl, hg y⟩
  · injection h with h
    simp only [Prod.mk.injEq] at h
    obtain ⟨rfl, rfl⟩ := h
    rename_i y hop
    rw [hop]
    exact ⟨_, rfl, hg y⟩
  · rename_i y hop
    rw [hop]
    split at h
    · rename_i k i off hs
      injection h with h
      simp only [Prod.mk.injEq] at h
      obtain ⟨rfl, rfl⟩ := h
      have hy := (hg y).strip hvc
      rw [hs] at hy
      generalize hu : ρ y = u at hy
      cases hy with
      | ptr h1 => exact ⟨_, by simp [hu], .ptr h1⟩
    · rename_i z off hs
      injection h with h
      simp only [Prod.mk.injEq] at h
      obtain ⟨rfl, rfl⟩ := h
      have hy := (hg y).strip hvc
      rw [hs] at hy
      generalize hu : ρ y = u at hy
      cases hy with
      | ep us h1 h2 => exact ⟨_, by simp [hu], .ep us h1 h2⟩
    · cases h
  · rename_i c a b hop
    rw [hop]
    split at h
    · rename_i p hp
      injection h with h
      simp only [Prod.mk.injEq] at h
      obtain ⟨rfl, rfl⟩ := h
      obtain ⟨c1, c2, c3⟩ := hvc
      have hc := (hg c).strip c1
      rw [hp] at hc
      have hc := hc.lit_inv
      refine ⟨_, ?_, pickA_ok (va := ρ a) (vb := ρ b) (p := p) (fun e => (hg a).strip (c2 e)) (fun e => (hg b).strip (c3 e))⟩
      simp [hc, asBool]
    · cases h
  · rename_i op t y z t2 hop
    rw [hop]
    split at h
    · rename_i v vc' hb
      injection h with h
      simp only [Prod.mk.injEq] at h
      obtain ⟨rfl, rfl⟩ := h
      obtain ⟨c1, c2, c3⟩ := hvc
      obtain ⟨u, rfl, hu⟩ := bop_ok hT ((hg y).strip c1) ((hg z).strip c2) hb c3 y z
      refine ⟨u, ?_, .lit _⟩
      simp only [Sem.run_bind] at hu ⊢
      rw [hu]
      rfl
    · cases h
  · rename_i op t y hop
    rw [hop]
    split at h
    · rename_i v vc' hb
      injection h with h
      simp only [Prod.mk.injEq] at h
      obtain ⟨rfl, rfl⟩ := h
      obtain ⟨c1, c3⟩ := hvc
      have hy := (hg y).strip c1
      unfold uop at hb
      split at hb
      · rename_i hs
        injection hb with hb
        simp only [Prod.mk.injEq] at hb
        obtain ⟨rfl, rfl⟩ := hb
        rw [hs] at hy
        have e := hy.lit_inv
        exact ⟨_, by simp [Op.unary, e], .lit _⟩
      · rename_i hs
        injection hb with hb
        simp only [Prod.mk.injEq] at hb
        obtain ⟨rfl, rfl⟩ := hb
        rw [hs] at hy
        have e := hy.lit_inv
        refine ⟨_, ?_, .lit _⟩
        have h2 : inR _ _ := c3
        unfold inR at h2
        simp only [Int.zero_sub] at h2
        simp [Op.unary, Op.intArith, e, h2]
      · cases hb
    · cases h
  · rename_i s dst y hop
    rw [hop]
    split at h
    · rename_i q1 q2 tsrc k z1 z2 z3 kk n hsrc hty hs
      injection h with h
      simp only [Prod.mk.injEq] at h
      obtain ⟨rfl, rfl⟩ := h
      have hy := (hg y).strip hvc
      rw [hs] at hy
      have e := hy.lit_inv
      obtain ⟨i, d, z, _, hu, _, _, _, _, hk⟩ := (hT _ _ hty).ok
      obtain ⟨_, d', _, _, hu', _⟩ := (hT _ _ hsrc).ok
      simp only [KOK] at hk
      subst hk
      refine ⟨_, ?_, .lit _⟩
      simp [convert, run_underlying hu, run_underlying hu', e, Conv.intToInt]
    · cases h
  · rename_i t i hop
    rw [hop]
    split at h
    · rename_i q1 xs hs
      injection h with h
      simp only [Prod.mk.injEq] at h
      obtain ⟨rfl, rfl⟩ := h
      have hy := (hg t).strip hvc.1
      rw [hs] at hy
      obtain ⟨cs, e, hl, hp⟩ := hy.tup_inv
      obtain ⟨u, h1, h2⟩ := VR.getD hl hp hvc.2
      exact ⟨u, by simp [Instr.extract, e, h1], h2⟩
    · cases h
  · rename_i f first caps hop
    rw [hop]
    split at h
    · rename_i hf
      injection h with h
      simp only [Prod.mk.injEq] at h
      obtain ⟨rfl, rfl⟩ := h
      have : first = #[] := by simpa using hf
      subst this
      obtain ⟨h1, h2⟩ := VR.caps hg hvc
      exact ⟨_, by simp [Instr.makeFunc], .clo h1 h2⟩
    · cases h
  · rename_i t y f hop
    rw [hop]
    split at h
    · rename_i q1 q2 fs q3 q4 q5 k i off hty hs
      injection h with h
      simp only [Prod.mk.injEq] at h
      obtain ⟨rfl, rfl⟩ := h
      have hy := (hg y).strip hvc.1
      rw [hs] at hy
      obtain ⟨fields, hu, hfs⟩ := und_struct (hT _ _ hty)
      obtain ⟨F, h1, h2⟩ := fieldsB_at hfs hvc.2.1
      have h3 : fs.getD f (0, 0, false) = (F.offset, fsz P F.type, rowB (P.underlying F.type)) := by simp [List.getD, h2]
      have h4 := hvc.2.2
      rw [h3] at h4 ⊢
      obtain ⟨a, e, hv⟩ := hy.ptr_shift F.offset
      exact ⟨_, by simp [e, run_fieldAt_ok hu h1 h4], hv⟩
    · rename_i q1 q2 fs q3 q4 q5 z off hty hs
      injection h with h
      simp only [Prod.mk.injEq] at h
      obtain ⟨rfl, rfl⟩ := h
      have hy := (hg y).strip hvc.1
      rw [hs] at hy
      obtain ⟨fields, hu, hfs⟩ := und_struct (hT _ _ hty)
      obtain ⟨F, h1, h2⟩ := fieldsB_at hfs hvc.2.1
      have h3 : fs.getD f (0, 0, false) = (F.offset, fsz P F.type, rowB (P.underlying F.type)) := by simp [List.getD, h2]
      have h4 := hvc.2.2
      rw [h3] at h4 ⊢
      obtain ⟨a, e, hv⟩ := hy.ep_shift F.offset
      exact ⟨_, by simp [e, run_fieldAt_ok hu h1 h4], hv⟩
    · cases h
  · rename_i t y f hop
    rw [hop]
    split at h
    · rename_i q1 q2 fs q3 q4 q5 xs hty hs
      split at h
      · rename_i q6 o s hf
        injection h with h
        simp only [Prod.mk.injEq] at h
        obtain ⟨rfl, rfl⟩ := h
        have hy := (hg y).strip hvc.1
        rw [hs] at hy
        obtain ⟨cs, e, hl, hp⟩ := hy.agg_inv
        obtain ⟨fields, hu, hfs⟩ := und_struct (hT _ _ hty)
        obtain ⟨F, h1, h2⟩ := fieldsB_at hfs (List.getElem?_eq_some_iff.1 hf).1
        rw [hf] at h2
        simp only [Option.some.injEq, Prod.mk.injEq] at h2
        obtain ⟨rfl, rfl, h3⟩ := h2
        exact ⟨_, by simp [Instr.field, run_underlying hu, h1, e, asAgg, part_agg h3.symm hvc.2.1], VR.range hl hp hvc.2.2⟩
      · rename_i q6 o s hf
        injection h with h
        simp only [Prod.mk.injEq] at h
        obtain ⟨rfl, rfl⟩ := h
        have hy := (hg y).strip hvc.1
        rw [hs] at hy
        obtain ⟨cs, e, hl, hp⟩ := hy.agg_inv
        obtain ⟨fields, hu, hfs⟩ := und_struct (hT _ _ hty)
        obtain ⟨F, h1, h2⟩ := fieldsB_at hfs (List.getElem?_eq_some_iff.1 hf).1
        rw [hf] at h2
        simp only [Option.some.injEq, Prod.mk.injEq] at h2
        obtain ⟨rfl, rfl, h3⟩ := h2
        obtain ⟨u, h4, h5⟩ := VR.getD hl hp hvc.2.2
        exact ⟨u, by simp [Instr.field, run_underlying hu, h1, e, asAgg, part_cell h3.symm (size_of_getD hvc.2.1).2 h4], h5⟩
      · cases h
    · cases h
  · rename_i t y ix hop
    rw [hop]
    split at h
    · rename_i q1 q2 q3 e q4 q5 q6 bs z hty hs hz
      split at h
      · rename_i te hte
        injection h with h
        simp only [Prod.mk.injEq] at h
        obtain ⟨rfl, rfl⟩ := h
        obtain ⟨c1, c2, c3, c4, c5⟩ := hvc
        have hy := (hg y).strip c1
        rw [hs] at hy
        obtain ⟨k, ek⟩ := idx_inv ((hg ix).strip c2) hz
        obtain ⟨b, off, c, e1, hv⟩ := ep_by hy (i := z.toNat) (by omega)
        refine ⟨_, ?_, hv⟩
        have := run_indexAt_slice (P := P) (w := w) (und_slice (hT _ _ hty)) (hT _ _ hte) ⟨b, off, none⟩ bs.length c k z c3 c4
        rw [c5, Nat.mul_one, add_mid] at this
        simp [e1, ek, this]
      · cases h
    · rename_i q1 q2 q3 e q4 q5 q6 es xs z hty hs hz
      split at h
      · rename_i te hte
        injection h with h
        simp only [Prod.mk.injEq] at h
        obtain ⟨rfl, rfl⟩ := h
        obtain ⟨c1, c2, c3, c4, c5, c6⟩ := hvc
        have hy := (hg y).strip c1
        rw [hs] at hy
        obtain ⟨k, ek⟩ := idx_inv ((hg ix).strip c2) hz
        obtain ⟨b, off, c, e1, hv⟩ := ep_li hy (i := z.toNat) (by omega) c6
        refine ⟨_, ?_, hv⟩
        have := run_indexAt_slice (P := P) (w := w) (und_slice (hT _ _ hty)) (hT _ _ hte) ⟨b, off, none⟩ xs.length c k z c3 c4
        rw [c5, add_mid] at this
        simp [e1, ek, this]
      · cases h
    · rename_i q1 q2 q3 e q4 q5 q6 kk es j n z hty hs hz
      split at h
      · rename_i te hte
        injection h with h
        simp only [Prod.mk.injEq] at h
        obtain ⟨rfl, rfl⟩ := h
        obtain ⟨c1, c2, c3, c4, c5⟩ := hvc
        have hy := (hg y).strip c1
        rw [hs] at hy
        obtain ⟨k, ek⟩ := idx_inv ((hg ix).strip c2) hz
        obtain ⟨r, A, hm, hes, hi, hcap, hA, _, e1⟩ := hy.sl_inv
        have hA := hA (by omega)
        subst hA
        have := run_indexAt_slice (P := P) (w := w) (und_slice (hT _ _ hty)) (hT _ _ hte) ⟨r.g, j * r.es, none⟩ n (r.cap - j) k z c3 c4
        rw [c5, ← hes, add_mid, ← Nat.add_mul] at this
        refine ⟨_, by simp [e1, ek, this]; rfl, ?_⟩
        exact .ptr (i := j + z.toNat) (off := 0) hm
      · cases h
    · rename_i q1 q2 q3 n e q4 q5 q6 kk j off z hty hs hz
      split at h
      · rename_i te hte
        injection h with h
        simp only [Prod.mk.injEq] at h
        obtain ⟨rfl, rfl⟩ := h
        obtain ⟨c1, c2, c3, c4⟩ := hvc
        have hy := (hg y).strip c1
        rw [hs] at hy
        obtain ⟨k, ek⟩ := idx_inv ((hg ix).strip c2) hz
        obtain ⟨a, e1, hv⟩ := hy.ptr_shift (z.toNat * te.size)
        have := run_indexAt_array (P := P) (w := w) (und_array (hT _ _ hty)) (hT _ _ hte) a k z c3 c4
        exact ⟨_, by simp [e1, ek, this], hv⟩
      · cases h
    · rename_i q1 q2 q3 n e q4 q5 q6 kk off z hty hs hz
      split at h
      · rename_i te hte
        injection h with h
        simp only [Prod.mk.injEq] at h
        obtain ⟨rfl, rfl⟩ := h
        obtain ⟨c1, c2, c3, c4⟩ := hvc
        have hy := (hg y).strip c1
        rw [hs] at hy
        obtain ⟨k, ek⟩ := idx_inv ((hg ix).strip c2) hz
        obtain ⟨a, e1, hv⟩ := hy.ep_shift (z.toNat * te.size)
        have := run_indexAt_array (P := P) (w := w) (und_array (hT _ _ hty)) (hT _ _ hte) a k z c3 c4
        exact ⟨_, by simp [e1, ek, this], hv⟩
      · cases h
    · cases h
  · rename_i t y ix hop
    rw [hop]
    split at h
    · rename_i q1 q2 q3 n e q4 q5 q6 xs z hty hs hz
      split at h
      · rename_i te hte
        split at h
        · cases h
        · rename_i hrow
          injection h with h
          simp only [Prod.mk.injEq] at h
          obtain ⟨rfl, rfl⟩ := h
          obtain ⟨c1, c2, c3, c4, c5⟩ := hvc
          have hy := (hg y).strip c1
          rw [hs] at hy
          obtain ⟨k, ek⟩ := idx_inv ((hg ix).strip c2) hz
          obtain ⟨cs, e1, hl, hp⟩ := hy.agg_inv
          obtain ⟨u, h4, h5⟩ := VR.getD hl hp c5
          obtain ⟨r1, r2⟩ := row_of (hT _ _ hte)
          refine ⟨u, ?_, h5⟩
          simp [Instr.index, e1, ek, asIntOf, run_underlying (und_array (hT _ _ hty)), c3, c4, run_sizeOf_ok (hT _ _ hte), part_cell (r1.trans (by simpa using hrow)) r2 h4]
      · cases h
    · rename_i q1 q2 q3 q4 q5 q6 s z hty hs hz
      injection h with h
      simp only [Prod.mk.injEq] at h
      obtain ⟨rfl, rfl⟩ := h
      obtain ⟨c1, c2, c3, c4⟩ := hvc
      have hy := (hg y).strip c1
      rw [hs] at hy
      have e1 := hy.lit_inv
      obtain ⟨k, ek⟩ := idx_inv ((hg ix).strip c2) hz
      obtain ⟨i, d, z', _, hu, _, _, _, _, hk⟩ := (hT _ _ hty).ok
      simp only [KOK] at hk
      subst hk
      refine ⟨_, ?_, .lit _⟩
      simp [Instr.index, e1, ek, asIntOf, run_underlying hu, c3, str_get (s := s) (i := z.toNat) (by omega)]
    · cases h
  · rename_i t y lo hi mx hop
    rw [hop]
    split at h
    · rename_i q1 q2 e q3 q4 q5 hty
      split at h
      · cases h
      · skip
        split at h
        · rename_i bs l hh hs hl hhi
          split at h
          · rename_i te hte
            injection h with h
            simp only [Prod.mk.injEq] at h
            obtain ⟨rfl, rfl⟩ := h
            obtain ⟨c0, c1, c2, c3, c4, c5, c6⟩ := hvc
            have hy := (hg y).strip c1
            rw [hs] at hy
            obtain ⟨A, n, c, e1, hn, hnc, hv⟩ := hy.by_sub
            have hlo := bound_lo hg hl c2
            have hhi' := bound_hi hg hhi c3
            have b1 : 0 ≤ hh.getD bs.length := by omega
            have hb := hv l.toNat (hh.getD bs.length).toNat (by omega) (by omega)
            refine ⟨_, ?_, hb⟩
            have hrun := run_slice_ok (P := P) (w := w) (und_slice (hT _ _ hty)) (hT _ _ hte) A n c (lo.map ρ) (hi.map ρ) l (hh.getD bs.length) ?_ ?_ c4 c5 (by omega) hnc
            · rw [c0] at hrun
              simp [e1, hrun]
            · rcases hlo with ⟨h1, h2⟩ | ⟨z, k, h1, h2⟩
              · exact .inl ⟨by simp [h1], h2⟩
              · exact .inr ⟨k, by simp [h1, h2]⟩
            · rcases hhi' with ⟨h1, h2⟩ | ⟨z, k, zz, h1, h2, h3⟩
              · exact .inl ⟨by simp [h1], by simp [h2, hn]⟩
              · exact .inr ⟨k, by simp [h1, h2, h3]⟩
          · cases h
        · rename_i es xs l hh hs hl hhi
          split at h
          · rename_i te hte
            injection h with h
            simp only [Prod.mk.injEq] at h
            obtain ⟨rfl, rfl⟩ := h
            obtain ⟨c0, c1, c2, c3, c4, c5, c6⟩ := hvc
            have hy := (hg y).strip c1
            rw [hs] at hy
            obtain ⟨A, n, c, e1, hn, hnc, hv⟩ := hy.li_sub
            have hlo := bound_lo hg hl c2
            have hhi' := bound_hi hg hhi c3
            have b1 : 0 ≤ hh.getD xs.length := by omega
            have hb := hv l.toNat (hh.getD xs.length).toNat (by omega) (by omega)
            refine ⟨_, ?_, hb⟩
            have hrun := run_slice_ok (P := P) (w := w) (und_slice (hT _ _ hty)) (hT _ _ hte) A n c (lo.map ρ) (hi.map ρ) l (hh.getD xs.length) ?_ ?_ c4 c5 (by omega) hnc
            · rw [c0] at hrun
              simp [e1, hrun]
            · rcases hlo with ⟨h1, h2⟩ | ⟨z, k, h1, h2⟩
              · exact .inl ⟨by simp [h1], h2⟩
              · exact .inr ⟨k, by simp [h1, h2]⟩
            · rcases hhi' with ⟨h1, h2⟩ | ⟨z, k, zz, h1, h2, h3⟩
              · exact .inl ⟨by simp [h1], by simp [h2, hn]⟩
              · exact .inr ⟨k, by simp [h1, h2, h3]⟩
          · cases h
        · rename_i kk es j n l hh hs hl hhi
          split at h
          · rename_i te hte
            injection h with h
            simp only [Prod.mk.injEq] at h
            obtain ⟨rfl, rfl⟩ := h
            obtain ⟨c0, c1, c2, c3, c4, c5, c6⟩ := hvc
            have hy := (hg y).strip c1
            rw [hs] at hy
            obtain ⟨A, c, e1, hnc, hv⟩ := hy.sl_sub
            have hlo := bound_lo hg hl c2
            have hhi' := bound_hi hg hhi c3
            have b1 : 0 ≤ hh.getD n := by omega
            have hb := hv l.toNat (hh.getD n).toNat (by omega) (by omega)
            refine ⟨_, ?_, hb⟩
            have hrun := run_slice_ok (P := P) (w := w) (und_slice (hT _ _ hty)) (hT _ _ hte) A n c (lo.map ρ) (hi.map ρ) l (hh.getD n) ?_ ?_ c4 c5 (by omega) hnc
            · rw [c0] at hrun
              simp [e1, hrun]
            · rcases hlo with ⟨h1, h2⟩ | ⟨z, k, h1, h2⟩
              · exact .inl ⟨by simp [h1], h2⟩
              · exact .inr ⟨k, by simp [h1, h2]⟩
            · rcases hhi' with ⟨h1, h2⟩ | ⟨z, k, zz, h1, h2, h3⟩
              · exact .inl ⟨by simp [h1], by simp [h2]⟩
              · exact .inr ⟨k, by simp [h1, h2, h3]⟩
          · cases h
        · cases h
    · cases h
  · cases h
end
end Go.TravelAbs
