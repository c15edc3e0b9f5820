import Derived.Test.YtjhiagelgleomaaAbsP
namespace Go.TravelAbs
open Go.RowKit Go.TravelBase
set_option linter.unusedVariables false
set_option linter.unusedSimpArgs false

/-! ## One operation -/
theorem run_enter {P : Program} {f : FuncId} {fn : Func} {c : Code} (hf : P.funcs[f]? = some fn) (hname : (fn.name == "runtime.NumGoroutine") = false) (hb : fn.body = some c) (args : Array Value) (w : World) :
    (callFunc f args).run P w = .ok (.enter f args) w := by
  have h1 : fn.name ≠ "runtime.NumGoroutine" := by simpa using hname
  simp [callFunc, hf, h1, hb]
abbrev Sg := FuncId → List AV → List AV → Option (AV × List AV × Prop)
def FnOK (P : Program) (f : FuncId) : Prop := ∃ fn c, P.funcs[f]? = some fn ∧ (fn.name == "runtime.NumGoroutine") = false ∧ fn.body = some c
def SgOK (P : Program) (σ : Sg) : Prop := ∀ f args ls r ls' vc, σ f args ls = some (r, ls', vc) → vc → FnOK P f ∧ FnS P f args ls r ls'
def lkAll (H : List (Nat × Blk)) : List Nat → Option (List Blk)
  | [] => some []
  | k :: ks =>
    match lk H k, lkAll H ks with
    | some b, some bs => some (b :: bs)
    | _, _ => none
def evC (σ : Sg) (H : List (Nat × Blk)) (fr : Nat) (g : Operand → AV) (op : Op) : Option Out :=
  match op with
  | .call ⟨.value f, args, _⟩ =>
    match stp (g f) with
    | .clo fid caps =>
      match cvA H ((args.toList.map fun x => stp (g x)) ++ caps) 0 with
      | some (ars, ks, e1, v1) =>
        match lkAll (e1 ++ H) ks with
        | some bs =>
          match σ fid ars (bs.map (·.c)) with
          | some (r, ls, v2) => some ⟨(rcv fr r).1, adH (lentAds ks bs ls 0 ++ frA fr 1000 r) [] ++ e1,
              cnd (g f) ∧ (∀ x ∈ args.toList, cnd (g x)) ∧ v1 ∧ v2 ∧ ks.Nodup ∧ ks.length < 1000 ∧ ls.length = ks.length ∧ (∀ b ∈ bs, b.mode = 0 ∧ 0 < cN b.c ∧ TrC b.c) ∧ (∀ c ∈ ls, TrC c) ∧ RT r ∧ nFr r ≤ 8⟩
          | none => none
        | none => none
      | none => none
    | _ => none
  | _ => none
def evX (ty : Ty) (σ : Sg) (H : List (Nat × Blk)) (fr : Nat) (g : Operand → AV) (op : Op) : Option Out :=
  match evA ty g op with
  | some (v, vc) => some ⟨v, [], vc⟩
  | none =>
    match evM ty H fr g op with
    | some out => some out
    | none => evC σ H fr g op
section
variable {P : Program} {ty : Ty} {X : Cx} {H : List (Nat × Blk)} {S : CSet} {m : RMap} {w : World} {σ : Sg}
theorem adH_app : ∀ (l : List Ad) (H : List (Nat × Blk)), adH l H = adH l [] ++ H
  | [], H => rfl
  | a :: l, H => by
    simp only [adH]
    rw [adH_app l ((a.k, ⟨a.c, 0, a.ln⟩) :: H), adH_app l [(a.k, ⟨a.c, 0, a.ln⟩)]]
    simp
theorem lkAll_at : ∀ (ks : List Nat) (bs : List Blk), lkAll H ks = some bs → bs.length = ks.length ∧ ∀ (p k : Nat), ks[p]? = some k → ∃ b, bs[p]? = some b ∧ lk H k = some b
  | [], bs, h => by
    simp only [lkAll, Option.some.injEq] at h
    subst h
    exact ⟨rfl, fun p k hk => by simp at hk⟩
  | k :: ks, bs, h => by
    simp only [lkAll] at h
    split at h
    · rename_i b bs' h1 h2
      simp only [Option.some.injEq] at h
      subst h
      obtain ⟨a1, a2⟩ := lkAll_at ks bs' h2
      refine ⟨by simp [a1], fun p k' hk => ?_⟩
      match p, hk with
      | 0, hk =>
        simp only [List.getElem?_cons_zero, Option.some.injEq] at hk
        subst hk
        exact ⟨b, rfl, h1⟩
      | p + 1, hk => exact a2 p k' (by simpa using hk)
    · cases h
theorem Mem.dom' (hM : Mem X H S m w) {e : List (Nat × Blk)} {S' : CSet} (hM' : Mem X (e ++ H) S' m w) {k : Nat} (h : lk H k = none) : lk (e ++ H) k = none := by
  cases hk : lk (e ++ H) k with
  | none => rfl
  | some b =>
    obtain ⟨r, h1, _⟩ := hM'.blk k b hk
    rw [hM.dom k h] at h1
    cases h1
theorem VR.clo_inv {f : FuncId} {caps : List AV} {u : Value} (h : VR w S m (.clo f caps) u) : ∃ cs : Array Value, u = .func (.func f) #[] cs ∧ cs.size = caps.length ∧ ∀ (j : Nat) (x : AV) (u : Value), caps[j]? = some x → cs[j]? = some u → VR w S m x u := by
  cases h with
  | clo hl hp => exact ⟨_, rfl, hl, hp⟩
/-- What an operation leaves behind. -/
def Left (X : Cx) (H : List (Nat × Blk)) (S : CSet) (m : RMap) (w : World) (out : Out) (v : Value) (w' : World) : Prop :=
  ∃ S' m', Adv S m w S' m' w' ∧ Mem X (out.eff ++ H) S' m' w' ∧ VR w' S' m' out.v v
theorem evC_ok (hσ : SgOK P σ) (hM : Mem X H S m w) {g : Operand → AV} {ρ : Operand → Value} (hg : ∀ y, VR w S m (g y) (ρ y)) {fr : Nat} (hfr : ∀ i, i < 8 → lk H (fr + i) = none) {o : Oper} {out : Out} (h : evC σ H fr g o.op = some out) (hvc : out.vc) :
    ∃ f args, (execOp ρ o).run P w = .ok (.enter f args) w ∧ Calls P f args w fun e w' => ∃ v, e = .returned v ∧ Left X H S m w out v w' := by
  unfold execOp
  unfold evC at h
  split at h
  · rename_i f args ats hop
    rw [hop]
    split at h
    · rename_i fid caps hf
      split at h
      · rename_i ars ks e1 v1 hcv
        split at h
        · rename_i bs hbs
          split at h
          · rename_i r ls v2 hs
            injection h with h
            subst h
            obtain ⟨c1, c2, c3, c4, c5, c6, c7, c8, c9, c10, c11⟩ := hvc
            have hfv := (hg f).strip c1
            rw [hf] at hfv
            have hcl : ∃ cs : Array Value, ρ f = .func (.func fid) #[] cs ∧ cs.size = caps.length ∧ ∀ (j : Nat) (x : AV) (u : Value), caps[j]? = some x → cs[j]? = some u → VR w S m x u := by
              exact hfv.clo_inv
            obtain ⟨cs, ef, hcs, hcp⟩ := hcl
            obtain ⟨ha1, ha2⟩ := VR.caps hg c2
            have hvsl : ((args.map ρ).toList ++ cs.toList).length = ((args.toList.map fun x => stp (g x)) ++ caps).length := by
              simp [hcs]
            obtain ⟨S1, b1, b2, b3, b4, b5⟩ := cvA_ok _ 0 H S ars ks e1 v1 ((args.map ρ).toList ++ cs.toList) hM (fun j x u hx hu => by
              have hl : ((args.toList.map fun x => stp (g x))).length = (args.map ρ).toList.length := by simp
              rcases Nat.lt_or_ge j (args.map ρ).toList.length with hj | hj
              · rw [List.getElem?_append_left (by omega)] at hx
                rw [List.getElem?_append_left hj] at hu
                exact ha2 j x u hx (by simpa using hu)
              · rw [List.getElem?_append_right (by omega)] at hx
                rw [List.getElem?_append_right hj] at hu
                rw [hl] at hx
                exact hcp _ x u hx (by simpa using hu)) hvsl hcv c3
            obtain ⟨d1, d2⟩ := lkAll_at ks bs hbs
            obtain ⟨hfn, hspec⟩ := hσ _ _ _ _ _ _ hs c4
            obtain ⟨fn, cd, hfs, hnm, hbody⟩ := hfn
            let rows : Nat → Row := fun p => ((ks[p]?).bind m).getD ⟨0, 0, 0⟩
            have hrows : ∀ i k, ks[i]? = some k → m k = some (rows i) := by
              intro i k hk
              obtain ⟨r', hr'⟩ := b4 k (List.mem_of_getElem? hk)
              simp only [rows, hk, Option.bind_some, hr', Option.getD_some]
            have hcall := call_core b1 (ks := ks) c6 (bs := bs) (rows := rows) d1 (fun p k hk => by
              obtain ⟨b, e2, e3⟩ := d2 p k hk
              obtain ⟨f1, f2, f3⟩ := c8 b (List.mem_of_getElem? e2)
              exact ⟨b, e2, e3, hrows p k hk, f1, f2, f3⟩) c5 hspec c7 c9 c10 (fr := fr) (fun i hi => hM.dom' b1 (hfr i (by omega))) (vs := (args.map ρ) ++ cs) (by
              have := congrArg List.length (rfl : ((args.map ρ).toList ++ cs.toList) = _)
              rw [b3]
              simpa using hvsl) (fun j y u hy hu => b5 ks.length rows (by omega) (fun i k hk => by rw [Nat.zero_add]; exact hrows i k hk) j y u hy (by rw [← Array.getElem?_toList, Array.toList_append] at hu; exact hu))
            refine ⟨fid, (args.map ρ) ++ cs, ?_, hcall.mono ?_⟩
            · simp only [resolve, Sem.run_bind, ef, Deferred.ofValue, invoke]
              have := run_enter hfs hnm hbody ((args.map ρ) ++ cs) w
              simpa using this
            · rintro e w' ⟨v, S', m2, rfl, q1, q2, q3⟩
              refine ⟨v, rfl, S', m2, b2.trans q1, ?_, q3⟩
              rw [adH_app] at q2
              rw [List.append_assoc]
              exact q2
          · cases h
        · cases h
      · cases h
    · cases h
  · cases h
theorem Post.left {out : Out} {r : Result Next} (h : Post X H S m w out r) : (∃ v w', r = .ok (.value v) w' ∧ Left X H S m w out v w') ∨ ∃ w', r = .ok .skip w' ∧ Left X H S m w out undef w' := by
  obtain ⟨v, w', S', m', hr, h1, h2, h3⟩ := h
  rcases hr with hr | ⟨hr, rfl⟩
  · exact .inl ⟨v, w', hr, S', m', h1, h2, h3⟩
  · exact .inr ⟨w', hr, S', m', h1, h2, h3⟩
/-- An operation, by what it leaves behind. -/
theorem evX_ok (hT : TysOK P ty) (hσ : SgOK P σ) (hM : Mem X H S m w) {g : Operand → AV} {a : Act} (hg : ∀ y, VR w S m (g y) (a.eval y)) {fr : Nat} (hfr : ∀ i, i < 8 → lk H (fr + i) = none) {o : Oper} {out : Out} (h : evX ty σ H fr g o.op = some out) (hvc : out.vc)
    {K : Act → World → Prop} {Q : Exit → Act → World → Prop} (hK : ∀ v w', Left X H S m w out v w' → K (a.put o.dst v) w') : o.wp P a w K Q := by
  unfold evX at h
  unfold Oper.wp
  split at h
  · rename_i v vc hA
    injection h with h
    subst h
    obtain ⟨u, h1, h2⟩ := evA_ok hT hg hA hvc
    rw [h1]
    exact hK u w ⟨S, m, Adv.refl _ _ _, hM, h2⟩
  · split at h
    · rename_i out' hMm
      injection h with h
      subst h
      rcases (evM_ok hT hM hg (by simpa using hfr 0 (by omega)) hMm hvc).left with ⟨v, w', h1, h2⟩ | ⟨w', h1, h2⟩
      · rw [h1]
        exact hK v w' h2
      · rw [h1]
        exact hK undef w' h2
    · obtain ⟨f, args, h1, h2⟩ := evC_ok hσ hM hg hfr h hvc
      rw [h1]
      refine h2.mono ?_
      rintro e w' ⟨v, rfl, h3⟩
      exact hK v w' h3
/-! ## A step of a region -/
def opnd (tm : List (Nat × AV)) : Operand → AV
  | .tmp t => gt tm t
  | .const v => .lit v
  | .func f => .clo f []
  | .global _ => .any
def putT (d : Option Tmp) (v : AV) (tm : List (Nat × AV)) : List (Nat × AV) :=
  match d with
  | some d => (d, v) :: tm
  | none => tm
def evG (ty : Ty) (σ : Sg) (gd : Nat → Option Tmp) (H : List (Nat × Blk)) (fr : Nat) (tm : List (Nat × AV)) (o : Oper) : Option Out :=
  match o.guard with
  | none => evX ty σ H fr (opnd tm) o.op
  | some (j, want) =>
    match gd j with
    | some d =>
      match stp (gt tm d) with
      | .lit (.bool c) =>
        match evX ty σ H fr (opnd tm) o.op with
        | some ⟨v, [], vc⟩ => some ⟨.opt (cndB (gt tm d) && (c == want)) v, [], (cndB (gt tm d) && (c == want)) = true → vc⟩
        | _ => none
      | _ => none
    | none => none
def TmR (w : World) (S : CSet) (m : RMap) (tm : List (Nat × AV)) (a : Act) : Prop := ∀ t, VR w S m (gt tm t) (a.tmps.getD t undef)
theorem opnd_VR {tm : List (Nat × AV)} {a : Act} (h : TmR w S m tm a) (y : Operand) : VR w S m (opnd tm y) (a.eval y) := by
  cases y with
  | tmp t => exact h t
  | const v => exact .lit v
  | func f => exact .clo rfl fun j x u hx => by simp at hx
  | global g => exact .any _
theorem put_tm {tm : List (Nat × AV)} {a : Act} {d : Option Tmp} {x : AV} {v : Value} (h : TmR w S m tm a) (hd : ∀ t ∈ d, t < a.tmps.size) (hv : VR w S m x v) : TmR w S m (putT d x tm) (a.put d v) := by
  cases d with
  | none => exact h
  | some d =>
    intro t
    have hlt := hd d rfl
    simp only [putT, Act.put, gt, lk]
    by_cases e : t = d
    · subst e
      rw [if_pos rfl]
      have : (a.tmps.setIfInBounds t v).getD t undef = v := by simp [hlt]
      rw [this]
      exact hv
    · rw [if_neg e]
      have : (a.tmps.setIfInBounds d v).getD t undef = a.tmps.getD t undef := by
        simp only [Array.getD_eq_getD_getElem?]
        rw [Array.getElem?_setIfInBounds, if_neg (fun e' => e e'.symm)]
      rw [this]
      exact h t
theorem put_size (a : Act) (d : Option Tmp) (v : Value) : (a.put d v).tmps.size = a.tmps.size := by
  cases d <;> simp [Act.put]
theorem put_defers (a : Act) (d : Option Tmp) (v : Value) : (a.put d v).defers = a.defers := by
  cases d <;> rfl
theorem TmR.adv {tm : List (Nat × AV)} {a : Act} {S' : CSet} {m' : RMap} {w' : World} (h : TmR w S m tm a) (hA : Adv S m w S' m' w') : TmR w' S' m' tm a := fun t => (h t).adv hA
theorem evG_ok (hT : TysOK P ty) (hσ : SgOK P σ) (hM : Mem X H S m w) {tm : List (Nat × AV)} {a : Act} (ht : TmR w S m tm a) {fr : Nat} (hfr : ∀ i, i < 8 → lk H (fr + i) = none) {ops : Array Oper} {o : Oper} {out : Out} (h : evG ty σ (fun j => (ops[j]?).bind (·.dst)) H fr tm o = some out) (hvc : out.vc)
    {K : Act → World → Prop} {Q : Exit → Act → World → Prop} (hK : ∀ v w', Left X H S m w out v w' → K (a.put o.dst v) w') :
    if Region.wanted o (yielded ops a.tmps) = true then o.wp P a w K Q else K (a.put o.dst undef) w := by
  unfold evG at h
  split at h
  · rename_i hg
    rw [if_pos (by simp [Region.wanted, hg])]
    exact evX_ok hT hσ hM (opnd_VR ht) hfr h hvc hK
  · rename_i j want hg
    split at h
    · rename_i d hd
      split at h
      · rename_i c hc
        split at h
        · rename_i v vc hx
          injection h with h
          subst h
          have hw : Region.wanted o (yielded ops a.tmps) = (cndB (gt tm d) && (c == want)) := by
            simp only [Region.wanted, hg, yielded, hd, Option.bind_some]
            cases hcb : cndB (gt tm d) with
            | true =>
              have hv := (ht d).strip (cndB_cnd _ hcb)
              rw [hc] at hv
              have hv := hv.lit_inv
              have hget : a.tmps[d]? = some (.bool c) := by
                cases hq : a.tmps[d]? with
                | none => simp [hq] at hv; cases hv
                | some u => simp [hq] at hv; rw [hv]
              rw [hget]
              cases c <;> cases want <;> rfl
            | false =>
              have hv := (ht d).undef_of hcb
              cases hq : a.tmps[d]? with
              | none => rfl
              | some u =>
                simp [hq] at hv
                subst hv
                rfl
          rw [hw]
          split
          · rename_i hcw
            exact evX_ok hT hσ hM (opnd_VR ht) hfr hx (hvc hcw) fun u w' ⟨S', m', q1, q2, q3⟩ => hK u w' ⟨S', m', q1, q2, .opt (fun _ => q3) (fun h => absurd hcw (by rw [h]; decide))⟩
          · rename_i hcw
            exact hK undef w ⟨S, m, Adv.refl _ _ _, hM, .opt (fun h => absurd h hcw) (fun _ => rfl)⟩
        · cases h
      · cases h
    · cases h
/-! ## A region that keeps its order -/
structure Rel (X : Cx) (s : St) (a : Act) (w : World) : Prop where
  size : a.tmps.size = s.sz
  defers : a.defers = []
  kl : ∀ k, s.ctr ≤ k → lk s.H k = none
  mem : ∃ S m, Mem X s.H S m w ∧ TmR w S m s.tm a
def stepS (s : St) (o : Oper) (out : Out) : St := ⟨putT o.dst out.v s.tm, out.eff ++ s.H, s.ctr + 8, s.sz⟩
def dOK (d : Option Tmp) (sz : Nat) : Bool :=
  match d with
  | some d => decide (d < sz)
  | none => true
theorem dOK_at {d : Option Tmp} {sz : Nat} (h : dOK d sz = true) : ∀ t ∈ d, t < sz := by
  intro t ht
  obtain rfl : d = some t := ht
  simpa [dOK] using h
def okO (s : St) (o : Oper) (out : Out) : Prop := dOK o.dst s.sz = true ∧ out.eff.all (fun x => decide (x.1 < s.ctr + 8)) = true
def evL (ty : Ty) (σ : Sg) (gd : Nat → Option Tmp) : List Oper → St → Option (St × Prop)
  | [], s => some (s, True)
  | o :: r, s =>
    match evG ty σ gd s.H s.ctr s.tm o with
    | some out =>
      match evL ty σ gd r (stepS s o out) with
      | some (s', vc) => some (s', okO s o out ∧ out.vc ∧ vc)
      | none => none
    | none => none
theorem lk_app (e H : List (Nat × Blk)) (k : Nat) (h : ∀ x ∈ e, x.1 ≠ k) : lk (e ++ H) k = lk H k := by
  induction e with
  | nil => rfl
  | cons x e ih =>
    simp only [List.cons_append, lk]
    rw [if_neg (fun q => h x (by simp) q.symm)]
    exact ih fun y hy => h y (by simp [hy])
theorem Rel.step {s : St} {a : Act} {w : World} (h : Rel X s a w) {o : Oper} {out : Out} (hok : okO s o out) {S : CSet} {m : RMap} (hM : Mem X s.H S m w) (ht : TmR w S m s.tm a) {v : Value} {w' : World} (hL : Left X s.H S m w out v w') : Rel X (stepS s o out) (a.put o.dst v) w' := by
  obtain ⟨S', m', q1, q2, q3⟩ := hL
  refine ⟨by rw [put_size]; exact h.size, by rw [put_defers]; exact h.defers, fun k hk => ?_, S', m', q2, put_tm (ht.adv q1) (fun t ht => by rw [h.size]; exact dOK_at hok.1 t ht) q3⟩
  have hk' : s.ctr + 8 ≤ k := hk
  show lk (out.eff ++ s.H) k = none
  rw [lk_app _ _ _ fun x hx e => ?_]
  · exact h.kl k (by omega)
  · have := List.all_eq_true.1 hok.2 x hx
    simp only [decide_eq_true_eq] at this
    omega
theorem evL_ok (hT : TysOK P ty) (hσ : SgOK P σ) {ops : Array Oper} {Q : Exit → Act → World → Prop} : ∀ (l : List Oper) (s s' : St) (vc : Prop) (a : Act) (w : World), evL ty σ (fun j => (ops[j]?).bind (·.dst)) l s = some (s', vc) → vc → Rel X s a w → (∀ a' w', Rel X s' a' w' → Q .normal a' w') → wpList P ops Q l a w
  | [], s, s', vc, a, w, h, _, hR, hQ => by
    simp only [evL, Option.some.injEq, Prod.mk.injEq] at h
    obtain ⟨rfl, _⟩ := h
    exact hQ a w hR
  | o :: r, s, s', vc, a, w, h, hvc, hR, hQ => by
    simp only [evL] at h
    split at h
    · rename_i out hout
      split at h
      · rename_i s2 vc2 h2
        simp only [Option.some.injEq, Prod.mk.injEq] at h
        obtain ⟨rfl, rfl⟩ := h
        obtain ⟨hok, v1, v2⟩ := hvc
        refine wpList_step fun K hK => ?_
        obtain ⟨S, m, hM, ht⟩ := hR.mem
        refine evG_ok hT hσ hM ht (fun i _ => hR.kl _ (Nat.le_add_right _ _)) hout v1 fun v w' hL => hK _ _ ?_
        exact evL_ok hT hσ r _ s2 vc2 _ w' h2 v2 (hR.step hok hM ht hL) hQ
      · cases h
    · cases h
end
end Go.TravelAbs
