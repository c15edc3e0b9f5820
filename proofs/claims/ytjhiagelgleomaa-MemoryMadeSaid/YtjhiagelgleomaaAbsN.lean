import Derived.Test.YtjhiagelgleomaaAbsM
namespace Go.TravelAbs
open Go.RowKit Go.TravelBase
set_option linter.unusedVariables false
set_option linter.unusedSimpArgs false

/-! ## Calls -/
def mL (n : Nat) (rows : Nat → Row) : RMap := fun k => if k < n then some (rows k) else none
def lentH : List AV → Nat → List (Nat × Blk)
  | [], _ => []
  | c :: r, p => (p, ⟨c, 0, true⟩) :: lentH r (p + 1)
/-- What is fresh: a list, or (under .opt) what a pointer leads to. -/
def fc : AV → AV
  | .opt _ c => c
  | c => c
def fv (k : Nat) : AV → AV
  | .opt _ _ => .ptr k 0 0
  | c => .sl k (cE c) 0 (cN c)
def rcvP (fr : Nat) (x : AV) : AV × List (Nat × Blk) :=
  match x with
  | .fr c => (fv fr c, [(fr, ⟨fc c, 0, false⟩)])
  | x => (x, [])
def rcvL (fr : Nat) : List AV → List AV × List (Nat × Blk)
  | [] => ([], [])
  | x :: r => ((rcvP fr x).1 :: (rcvL (fr + 1) r).1, (rcvP fr x).2 ++ (rcvL (fr + 1) r).2)
def rcv (fr : Nat) (r : AV) : AV × List (Nat × Blk) :=
  match r with
  | .tup xs => (.tup (rcvL fr xs).1, (rcvL fr xs).2)
  | x => rcvP fr x
def lentSet (n : Nat) (rows : Nat → Row) (g : Nat) : Prop := ∃ p, p < n ∧ (rows p).g = g
/-- What a call does: args as they read, the blocks lent to it before (ls) and behind (ls'), the result. -/
def FnS (P : Program) (f : FuncId) (args ls : List AV) (r : AV) (ls' : List AV) : Prop :=
  ∀ (w : World) (S : CSet) (rows : Nat → Row) (vs : Array Value), (∀ b o, S b o → b < w.heap.size) → vs.size = args.length →
    (∀ (j : Nat) (x : AV) (v : Value), args[j]? = some x → vs[j]? = some v → VR w S (mL ls.length rows) x v) →
    (∀ p c, ls[p]? = some c → BR w S (mL ls.length rows) (fun _ g => g < w.heap.size) ⟨c, 0, true⟩ (rows p) ∧ 0 < (rows p).cap) →
    (∀ p q, p < ls.length → q < ls.length → (rows p).g = (rows q).g → p = q) →
    Calls P f vs w fun e w' => ∃ v S' m', e = .returned v ∧ Mem ⟨w, S, ls.length, rows⟩ ((rcv 1000 r).2 ++ lentH ls' 0) S' m' w' ∧ VR w' S' m' (rcv 1000 r).1 v
/-- The same, where one of many outcomes comes. -/
def FnE (P : Program) (f : FuncId) (args ls : List AV) {I : Type} (p : I → Prop) (r : I → AV) (ls' : I → List AV) : Prop :=
  ∀ (w : World) (S : CSet) (rows : Nat → Row) (vs : Array Value), (∀ b o, S b o → b < w.heap.size) → vs.size = args.length →
    (∀ (j : Nat) (x : AV) (v : Value), args[j]? = some x → vs[j]? = some v → VR w S (mL ls.length rows) x v) →
    (∀ p c, ls[p]? = some c → BR w S (mL ls.length rows) (fun _ g => g < w.heap.size) ⟨c, 0, true⟩ (rows p) ∧ 0 < (rows p).cap) →
    (∀ p q, p < ls.length → q < ls.length → (rows p).g = (rows q).g → p = q) →
    Calls P f vs w fun e w' => ∃ i, p i ∧ ∃ v S' m', e = .returned v ∧ Mem ⟨w, S, ls.length, rows⟩ ((rcv 1000 (r i)).2 ++ lentH (ls' i) 0) S' m' w' ∧ VR w' S' m' (rcv 1000 (r i)).1 v
theorem FnS.toE {P : Program} {f : FuncId} {args ls : List AV} {r : AV} {ls' : List AV} (h : FnS P f args ls r ls') {I : Type} {p : I → Prop} {r' : I → AV} {ls2 : I → List AV} (i : I) (hp : p i) (h1 : r' i = r) (h2 : ls2 i = ls') : FnE P f args ls p r' ls2 := by
  subst h1 h2
  exact fun w S rows vs a b c d e => (h w S rows vs a b c d e).mono fun _ _ h => ⟨i, hp, h⟩
theorem FnE.mono {P : Program} {f : FuncId} {args ls : List AV} {I J : Type} {p : I → Prop} {r : I → AV} {ls' : I → List AV} {q : J → Prop} {r' : J → AV} {ls2 : J → List AV} (h : FnE P f args ls p r ls') (hm : ∀ i, p i → ∃ j, q j ∧ r' j = r i ∧ ls2 j = ls' i) : FnE P f args ls q r' ls2 := by
  refine fun w S rows vs a b c d e => (h w S rows vs a b c d e).mono fun _ _ ⟨i, hi, h⟩ => ?_
  obtain ⟨j, h1, h2, h3⟩ := hm i hi
  exact ⟨j, h1, by rw [h2, h3]; exact h⟩

section
variable {P : Program} {ty : Ty} {X : Cx} {H : List (Nat × Blk)} {S : CSet} {m : RMap} {w : World}
theorem Mem.world (h : Mem X H S m w) {S' : CSet} {w' : World} (hst : ∀ b o, S b o → S' b o ∧ w'.cell? ⟨b, o, none⟩ = w.cell? ⟨b, o, none⟩) (hfrm : Frm X w') (hs1 : ∀ b o, S' b o → X.S0 b o ∨ X.w0.heap.size ≤ b) (hslt : ∀ b o, S' b o → b < w'.heap.size)
    (hk : ∀ j bj rj, lk H j = some bj → m j = some rj → bj.mode ≤ 1 → 0 < rj.cap → w'.heap[rj.g]? = w.heap[rj.g]? ∧ ∀ o, S' rj.g o → S rj.g o) : Mem X H S' m w' :=
  ⟨h.lm, hfrm, fun b o h0 => (hst _ _ (h.s0 b o h0)).1, hs1, hslt, h.dom, fun j bj hj => by
    obtain ⟨rj, h1, h2⟩ := h.blk j bj hj
    exact ⟨rj, h1, fun hm => (h2 hm).keep hst (fun _ _ q => q) fun hm1 hc => hk j bj rj hj h1 hm1 hc⟩, h.inj⟩
/-- A content that names no block. -/
def TrC (c : AV) : Prop := ∀ i, i < cN c → ∀ y ∈ (cAt c i).cl, Tr y
theorem TrC.by_ (bs : List UInt8) : TrC (.by_ bs) := fun i hi y hy => by
  simp only [cAt, cl_bA, List.mem_singleton] at hy
  subst hy
  exact Tr.lit _
theorem TrC.li {es : Nat} {xs : List AV} (h : ∀ x ∈ xs, ∀ y ∈ x.cl, Tr y) : TrC (.li es xs) := fun i hi y hy => h (xs.getD i .any) (List.mem_of_getElem? (getD_of_lt (d := AV.any) hi)) y hy
theorem BR.tr {S : CSet} {m m' : RMap} {own own' : Bool → Nat → Prop} {c : AV} {md : Nat} {ln ln' : Bool} {r : Row} (h : BR w S m own ⟨c, md, ln⟩ r) (ht : TrC c) (ho : md ≤ 1 → 0 < r.cap → own ln r.g → own' ln' r.g) : BR w S m' own' ⟨c, md, ln'⟩ r :=
  ⟨h.es, h.len, h.max, fun i hi => by
    obtain ⟨h1, h2⟩ := h.rd i hi
    refine ⟨h1, fun j y hy => ?_⟩
    obtain ⟨u, h3, h4⟩ := h2 j y hy
    exact ⟨u, h3, ht i hi y (List.mem_of_getElem? hy) _ _ _ _ h4 m'⟩, h.set, fun hm hc => by
    obtain ⟨q1, q2, q3⟩ := h.row hm hc
    exact ⟨ho hm hc q1, q2, q3⟩⟩
/-- Blocks of a call that has ended become the caller's. -/
structure Ad where
  k : Nat
  q : Nat
  c : AV
  ln : Bool
def adH : List Ad → List (Nat × Blk) → List (Nat × Blk)
  | [], H => H
  | a :: r, H => adH r ((a.k, ⟨a.c, 0, a.ln⟩) :: H)
theorem adopt {m' : RMap} {w' : World} {S' : CSet} :
    ∀ (l : List Ad) (H : List (Nat × Blk)) (m : RMap), Mem X H S' m w' →
      (∀ a ∈ l, ∃ r, m' a.q = some r ∧ (m a.k = none ∨ m a.k = some r) ∧ (∀ m2, BR w' S' m2 X.own ⟨a.c, 0, a.ln⟩ r) ∧ ∀ j bj rj, j ≠ a.k → lk H j = some bj → m j = some rj → bj.mode ≤ 1 → 0 < rj.cap → 0 < r.cap → rj.g ≠ r.g) →
      (l.map (·.k)).Nodup → (∀ a ∈ l, ∀ b ∈ l, ∀ r r', m' a.q = some r → m' b.q = some r' → 0 < r.cap → 0 < r'.cap → r.g = r'.g → a.k = b.k) →
      ∃ m2, Mem X (adH l H) S' m2 w' ∧ (∀ k r, m k = some r → m2 k = some r) ∧ ∀ a ∈ l, ∀ r, m' a.q = some r → m2 a.k = some r
  | [], H, m, hM, _, _, _ => ⟨m, hM, fun _ _ h => h, fun a ha => by cases ha⟩
  | a :: l, H, m, hM, hl, hnd, hinj => by
    obtain ⟨r, h1, h2, h3, h4⟩ := hl a (by simp)
    have hle := mset_le (k := a.k) (r := r) h2
    have hM1 : Mem X ((a.k, ⟨a.c, 0, a.ln⟩) :: H) S' (mset m a.k r) w' :=
      hM.upd (S' := S') (w' := w') a.k ⟨a.c, 0, a.ln⟩ r h2 (fun _ _ h => ⟨h, rfl⟩) hM.frm hM.s1 hM.slt (fun j bj rj hj h5 h6 h7 h8 => ⟨rfl, fun _ q => q, fun _ h9 => h4 j bj rj hj h5 h6 h7 h8 h9⟩) (fun _ => h3 _)
    rw [List.map_cons, List.nodup_cons] at hnd
    obtain ⟨m2, q1, q2, q3⟩ := adopt l ((a.k, ⟨a.c, 0, a.ln⟩) :: H) (mset m a.k r) hM1 (fun b hb => by
      obtain ⟨r', h5, h6, h7, h8⟩ := hl b (by simp [hb])
      have hne : b.k ≠ a.k := fun e => hnd.1 (e ▸ List.mem_map.2 ⟨b, hb, rfl⟩)
      refine ⟨r', h5, by simp only [mset, if_neg hne]; exact h6, h7, fun j bj rj hj h9 h10 h11 h12 h13 => ?_⟩
      simp only [lk] at h9
      split at h9
      · rename_i e
        subst e
        simp only [mset, if_true] at h10
        injection h10 with h10
        subst h10
        exact fun e => hj (hinj a (by simp) b (by simp [hb]) r r' h1 h5 h12 h13 e)
      · rename_i hja
        simp only [mset, if_neg hja] at h10
        exact h8 j bj rj hj h9 h10 h11 h12 h13) hnd.2 (fun x hx y hy => hinj x (by simp [hx]) y (by simp [hy]))
    refine ⟨m2, q1, fun k r' hk => q2 k r' (hle k r' hk), fun b hb r' hb' => ?_⟩
    rcases List.mem_cons.1 hb with rfl | hb
    · rw [h1] at hb'
      injection hb' with hb'
      subst hb'
      exact q2 _ _ (by simp [mset])
    · exact q3 b hb r' hb'
def frP (fr q : Nat) : AV → List Ad
  | .fr c => [⟨fr, q, fc c, false⟩]
  | _ => []
def frL (fr q : Nat) : List AV → List Ad
  | [] => []
  | x :: r => frP fr q x ++ frL (fr + 1) (q + 1) r
def frA (fr q : Nat) (r : AV) : List Ad :=
  match r with
  | .tup xs => frL fr q xs
  | x => frP fr q x
def RT1 : AV → Prop
  | .fr c => TrC (fc c)
  | x => Tr x
def RT (r : AV) : Prop :=
  match r with
  | .tup xs => ∀ x ∈ xs, RT1 x
  | x => RT1 x
def nFr : AV → Nat
  | .tup xs => xs.length
  | _ => 1
theorem frL_mem : ∀ (xs : List AV) (fr q : Nat) (a : Ad), a ∈ frL fr q xs → ∃ i, i < xs.length ∧ a.k = fr + i ∧ a.q = q + i ∧ (∃ c, xs[i]? = some (.fr c) ∧ a.c = fc c) ∧ a.ln = false
  | [], _, _, _, h => by cases h
  | x :: r, fr, q, a, h => by
    simp only [frL, List.mem_append] at h
    rcases h with h | h
    · unfold frP at h
      split at h
      · simp only [List.mem_singleton] at h
        subst h
        exact ⟨0, by simp, rfl, rfl, ⟨_, rfl, rfl⟩, rfl⟩
      · cases h
    · obtain ⟨i, h1, h2, h3, h4, h5⟩ := frL_mem r (fr + 1) (q + 1) a h
      exact ⟨i + 1, by simp; omega, by omega, by omega, by simpa using h4, h5⟩
theorem frL_has : ∀ (xs : List AV) (fr q i : Nat) (c : AV), xs[i]? = some (.fr c) → (⟨fr + i, q + i, fc c, false⟩ : Ad) ∈ frL fr q xs
  | [], _, _, _, _, h => by simp at h
  | x :: r, fr, q, 0, c, h => by
    simp only [List.getElem?_cons_zero, Option.some.injEq] at h
    subst h
    simp [frL, frP]
  | x :: r, fr, q, i + 1, c, h => by
    have := frL_has r (fr + 1) (q + 1) i c (by simpa using h)
    simp only [frL, List.mem_append]
    right
    rw [show fr + (i + 1) = fr + 1 + i by omega, show q + (i + 1) = q + 1 + i by omega]
    exact this
theorem rcvL_lk : ∀ (xs : List AV) (fr i : Nat) (c : AV) (L : List (Nat × Blk)), xs[i]? = some (.fr c) → lk ((rcvL fr xs).2 ++ L) (fr + i) = some ⟨fc c, 0, false⟩
  | [], _, _, _, _, h => by simp at h
  | x :: r, fr, 0, c, L, h => by
    simp only [List.getElem?_cons_zero, Option.some.injEq] at h
    subst h
    simp [rcvL, rcvP, lk]
  | x :: r, fr, i + 1, c, L, h => by
    have := rcvL_lk r (fr + 1) i c L (by simpa using h)
    have e : lk ((rcvL fr (x :: r)).2 ++ L) (fr + (i + 1)) = lk ((rcvL (fr + 1) r).2 ++ L) (fr + (i + 1)) := by
      simp only [rcvL]
      unfold rcvP
      split
      · simp only [List.cons_append, List.nil_append, lk]
        rw [if_neg (by omega)]
      · simp
    rw [e, show fr + (i + 1) = fr + 1 + i by omega]
    exact this
theorem rcvL_lo : ∀ (xs : List AV) (fr k : Nat) (L : List (Nat × Blk)), k < fr → lk ((rcvL fr xs).2 ++ L) k = lk L k
  | [], _, _, _, _ => rfl
  | x :: r, fr, k, L, h => by
    simp only [rcvL]
    unfold rcvP
    split
    · simp only [List.cons_append, List.nil_append, lk]
      rw [if_neg (by omega)]
      exact rcvL_lo r (fr + 1) k L (by omega)
    · simp only [List.nil_append]
      exact rcvL_lo r (fr + 1) k L (by omega)
theorem lentH_lk : ∀ (ls : List AV) (p i : Nat) (c : AV), ls[i]? = some c → lk (lentH ls p) (p + i) = some ⟨c, 0, true⟩
  | [], _, _, _, h => by simp at h
  | x :: r, p, 0, c, h => by
    simp only [List.getElem?_cons_zero, Option.some.injEq] at h
    subst h
    simp [lentH, lk]
  | x :: r, p, i + 1, c, h => by
    have := lentH_lk r (p + 1) i c (by simpa using h)
    simp only [lentH, lk]
    rw [if_neg (by omega), show p + (i + 1) = p + 1 + i by omega]
    exact this
theorem rcv_lk {r : AV} {a : Ad} {fr : Nat} (L : List (Nat × Blk)) (h : a ∈ frA fr 1000 r) : lk ((rcv 1000 r).2 ++ L) a.q = some ⟨a.c, 0, false⟩ := by
  unfold frA at h
  unfold rcv
  split at h
  · obtain ⟨i, h1, h2, h3, h4, h5⟩ := frL_mem _ _ _ _ h
    obtain ⟨c, h4, h6⟩ := h4
    rw [h3, h6]
    exact rcvL_lk _ _ _ _ _ h4
  · rename_i hne
    unfold frP at h
    split at h
    · simp only [List.mem_singleton] at h
      subst h
      simp [rcvP, lk]
    · cases h
theorem rcv_lo {r : AV} {k : Nat} (L : List (Nat × Blk)) (h : k < 1000) : lk ((rcv 1000 r).2 ++ L) k = lk L k := by
  unfold rcv
  split
  · exact rcvL_lo _ _ _ _ h
  · unfold rcvP
    split
    · simp only [List.cons_append, List.nil_append, lk]
      rw [if_neg (by omega)]
    · rfl
theorem rcvP_VR {S' : CSet} {m' m'' : RMap} {w' : World} {fr q : Nat} {x : AV} {v : Value} (hx : RT1 x) (hm : ∀ c r, x = .fr c → m' q = some r → m'' fr = some r) (h : VR w' S' m' (rcvP q x).1 v) : VR w' S' m'' (rcvP fr x).1 v := by
  unfold rcvP at h ⊢
  split at h
  · rename_i c
    have hm2 : ∀ r, m' q = some r → m'' fr = some r := fun r => hm c r rfl
    unfold fv at h ⊢
    split at h
    · cases h with
      | ptr h1 => exact .ptr (hm2 _ h1)
    · obtain ⟨r, A, h1, h2, h3, h4, h5, h6, rfl⟩ := h.sl_inv
      exact .sl (hm2 r h1) h2 h3 h4 h5 h6
  · rename_i hne
    have ht : Tr x := by
      unfold RT1 at hx
      split at hx
      · rename_i c; exact absurd rfl (hne c)
      · exact hx
    exact ht _ _ _ _ h m''
theorem rcvL_len : ∀ (xs : List AV) (fr : Nat), (rcvL fr xs).1.length = xs.length
  | [], _ => rfl
  | x :: r, fr => by simp [rcvL, rcvL_len r (fr + 1)]
theorem rcvL_at : ∀ (xs : List AV) (fr i : Nat), (rcvL fr xs).1[i]? = (xs[i]?).map fun x => (rcvP (fr + i) x).1
  | [], _, _ => by simp [rcvL]
  | x :: r, fr, 0 => by simp [rcvL]
  | x :: r, fr, i + 1 => by
    simp only [rcvL, List.getElem?_cons_succ]
    rw [rcvL_at r (fr + 1) i, show fr + (i + 1) = fr + 1 + i by omega]
theorem rcv_VR {S' : CSet} {m' m'' : RMap} {w' : World} {fr : Nat} {r : AV} {v : Value} (hr : RT r) (hm : ∀ a ∈ frA fr 1000 r, ∀ q, m' a.q = some q → m'' a.k = some q) (h : VR w' S' m' (rcv 1000 r).1 v) : VR w' S' m'' (rcv fr r).1 v := by
  unfold rcv at h ⊢
  unfold RT at hr
  unfold frA at hm
  split at h
  · rename_i xs
    obtain ⟨cs, rfl, hl, hp⟩ := h.tup_inv
    refine .tup (by rw [hl, rcvL_len, rcvL_len]) fun j x u hx hu => ?_
    rw [rcvL_at] at hx
    obtain ⟨y, h1, rfl⟩ := Option.map_eq_some_iff.1 hx
    refine rcvP_VR (hr y (List.mem_of_getElem? h1)) (fun c q e hq => ?_) (hp j (rcvP (1000 + j) y).1 u (by rw [rcvL_at, h1]; rfl) hu)
    subst e
    exact hm _ (frL_has xs fr 1000 j c h1) q hq
  · rename_i hne
    have hr' : RT1 r := by
      split at hr
      · rename_i xs; exact absurd rfl (hne xs)
      · exact hr
    refine rcvP_VR hr' (fun c q e hq => ?_) h
    subst e
    exact hm ⟨fr, 1000, fc c, false⟩ (by simp [frP]) q hq
end
end Go.TravelAbs
