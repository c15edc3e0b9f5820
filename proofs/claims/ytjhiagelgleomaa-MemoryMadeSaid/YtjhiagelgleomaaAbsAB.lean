import Derived.Test.YtjhiagelgleomaaAbsAA
namespace Go.TravelAbs
open Go.RowKit Go.TravelBase
set_option linter.unusedVariables false
set_option linter.unusedSimpArgs false

/-! ## Calls with many outcomes -/
structure Rs where
  I : Type
  p : I → Prop
  r : I → AV
  ls : I → List AV
  vc : Prop
abbrev Sg2 := FuncId → List AV → List AV → Option Rs
def Sg2OK (P : Program) (τ : Sg2) : Prop := ∀ f args ls R, τ f args ls = some R → R.vc → FnOK P f ∧ FnE P f args ls R.p R.r R.ls
structure OutE where
  I : Type
  p : I → Prop
  v : I → AV
  eff : I → List (Nat × Blk)
  vc : Prop
def evE (τ : Sg2) (H : List (Nat × Blk)) (fr : Nat) (g : Operand → AV) (op : Op) : Option OutE :=
  match op with
  | .call ⟨.value f, args, _⟩ =>
    match stp (g f) with
    | .clo fid caps =>
      match cvA H ((args.toList.map fun x => stp (g x)) ++ caps) 0 with
      | some (ars, ks, e1, v1) =>
        match lkAll (e1 ++ H) ks with
        | some bs =>
          match τ fid ars (bs.map (·.c)) with
          | some R => some ⟨R.I, R.p, fun i => (rcv fr (R.r i)).1, fun i => adH (lentAds ks bs (R.ls i) 0 ++ frA fr 1000 (R.r i)) [] ++ e1,
              cnd (g f) ∧ (∀ x ∈ args.toList, cnd (g x)) ∧ v1 ∧ R.vc ∧ ks.Nodup ∧ ks.length < 1000 ∧ (∀ b ∈ bs, b.mode = 0 ∧ 0 < cN b.c ∧ TrC b.c) ∧ (∀ i, R.p i → (R.ls i).length = ks.length ∧ (∀ c ∈ R.ls i, TrC c) ∧ RT (R.r i) ∧ nFr (R.r i) ≤ 8)⟩
          | none => none
        | none => none
      | none => none
    | _ => none
  | _ => none
/-- A region that keeps its order, as one proposition. -/
def EvQ (ty : Ty) (σ : Sg) (τ : Sg2) (gd : Nat → Option Tmp) : List Oper → St → (St → Prop) → Prop
  | [], s, K => K s
  | o :: l, s, K =>
    match (match o.guard with | none => evE τ s.H s.ctr (opnd s.tm) o.op | some _ => none) with
    | some E => (E.vc ∧ dOK o.dst s.sz = true) ∧ ∀ i, E.p i → ((E.eff i).all (fun x => decide (x.1 < s.ctr + 8)) = true ∧ EvQ ty σ τ gd l (stepS s o ⟨E.v i, E.eff i, True⟩) K)
    | none =>
      match evG ty σ gd s.H s.ctr s.tm o with
      | some out => (okO s o out ∧ out.vc) ∧ EvQ ty σ τ gd l (stepS s o out) K
      | none => False
section
variable {P : Program} {ty : Ty} {X : Cx} {H : List (Nat × Blk)} {S : CSet} {m : RMap} {w : World} {σ : Sg} {τ : Sg2} {Q : Exit → Act → World → Prop}
theorem evE_ok (hσ : Sg2OK P τ) (hM : Mem X H S m w) {g : Operand → AV} {ρ : Operand → Value} (hg : ∀ y, VR w S m (g y) (ρ y)) {fr : Nat} (hfr : ∀ i, i < 8 → lk H (fr + i) = none) {o : Oper} {E : OutE} (h : evE τ H fr g o.op = some E) (hvc : E.vc) :
    ∃ f args, (execOp ρ o).run P w = .ok (.enter f args) w ∧ Calls P f args w fun e w' => ∃ i, E.p i ∧ ∃ v, e = .returned v ∧ Left X H S m w ⟨E.v i, E.eff i, True⟩ v w' := by
  unfold execOp
  unfold evE at h
  split at h
  · rename_i f args ats hop
    rw [hop]
    split at h
    · rename_i fid caps hf
      split at h
      · rename_i ars ks e1 v1 hcv
        split at h
        · rename_i bs hbs
          split at h
          · rename_i R hs
            injection h with h
            subst h
            obtain ⟨c1, c2, c3, c4, c5, c6, c8, c7⟩ := hvc
            have hfv := (hg f).strip c1
            rw [hf] at hfv
            obtain ⟨cs, ef, hcs, hcp⟩ := hfv.clo_inv
            obtain ⟨ha1, ha2⟩ := VR.caps hg c2
            have hvsl : ((args.map ρ).toList ++ cs.toList).length = ((args.toList.map fun x => stp (g x)) ++ caps).length := by
              simp [hcs]
            obtain ⟨S1, b1, b2, b3, b4, b5⟩ := cvA_ok _ 0 H S ars ks e1 v1 ((args.map ρ).toList ++ cs.toList) hM (fun j x u hx hu => by
              have hl : ((args.toList.map fun x => stp (g x))).length = (args.map ρ).toList.length := by simp
              rcases Nat.lt_or_ge j (args.map ρ).toList.length with hj | hj
              · rw [List.getElem?_append_left (by omega)] at hx
                rw [List.getElem?_append_left hj] at hu
                exact ha2 j x u hx (by simpa using hu)
              · rw [List.getElem?_append_right (by omega)] at hx
                rw [List.getElem?_append_right hj] at hu
                rw [hl] at hx
                exact hcp _ x u hx (by simpa using hu)) hvsl hcv c3
            obtain ⟨d1, d2⟩ := lkAll_at ks bs hbs
            obtain ⟨hfn, hspec⟩ := hσ _ _ _ _ hs c4
            obtain ⟨fn, cd, hfs, hnm, hbody⟩ := hfn
            let rows : Nat → Row := fun p => ((ks[p]?).bind m).getD ⟨0, 0, 0⟩
            have hrows : ∀ i k, ks[i]? = some k → m k = some (rows i) := by
              intro i k hk
              obtain ⟨r', hr'⟩ := b4 k (List.mem_of_getElem? hk)
              simp only [rows, hk, Option.bind_some, hr', Option.getD_some]
            have hcall := call_coreE b1 (ks := ks) c6 (bs := bs) (rows := rows) d1 (fun p k hk => by
              obtain ⟨b, e2, e3⟩ := d2 p k hk
              obtain ⟨f1, f2, f3⟩ := c8 b (List.mem_of_getElem? e2)
              exact ⟨b, e2, e3, hrows p k hk, f1, f2, f3⟩) c5 hspec (fun i hi => (c7 i hi).1) (fun i hi => (c7 i hi).2.1) (fun i hi => (c7 i hi).2.2.1) (fr := fr) (fun i hi q hq => hM.dom' b1 (hfr q (by have := (c7 i hi).2.2.2; omega))) (vs := (args.map ρ) ++ cs) (by
              rw [b3]
              simpa using hvsl) (fun j y u hy hu => b5 ks.length rows (by omega) (fun i k hk => by rw [Nat.zero_add]; exact hrows i k hk) j y u hy (by rw [← Array.getElem?_toList, Array.toList_append] at hu; exact hu))
            refine ⟨fid, (args.map ρ) ++ cs, ?_, hcall.mono ?_⟩
            · simp only [resolve, Sem.run_bind, ef, Deferred.ofValue, invoke]
              have := run_enter hfs hnm hbody ((args.map ρ) ++ cs) w
              simpa using this
            · rintro e w' ⟨i, hi, v, S', m2, rfl, q1, q2, q3⟩
              refine ⟨i, hi, v, rfl, S', m2, b2.trans q1, ?_, q3⟩
              rw [adH_app] at q2
              show Mem X ((adH (lentAds ks bs (R.ls i) 0 ++ frA fr 1000 (R.r i)) [] ++ e1) ++ H) S' m2 w'
              rw [List.append_assoc]
              exact q2
          · cases h
        · cases h
      · cases h
    · cases h
  · cases h
theorem EvQ_ok (hT : TysOK P ty) (hσ : SgOK P σ) (hτ : Sg2OK P τ) {ops : Array Oper} {Q : Exit → Act → World → Prop} {K : St → Prop} (hQ : ∀ s', K s' → ∀ a' w', Rel X s' a' w' → Q .normal a' w') :
    ∀ (l : List Oper) (s : St) (a : Act) (w : World), EvQ ty σ τ (fun j => (ops[j]?).bind (·.dst)) l s K → Rel X s a w → wpList P ops Q l a w
  | [], s, a, w, h, hR => hQ s h a w hR
  | o :: r, s, a, w, h, hR => by
    simp only [EvQ] at h
    refine wpList_step fun K' hK' => ?_
    obtain ⟨S, m, hM, ht⟩ := hR.mem
    split at h
    · rename_i E hE
      cases hgd : o.guard with
      | some g => rw [hgd] at hE; cases hE
      | none =>
        rw [hgd] at hE
        obtain ⟨⟨h1, h2⟩, h3⟩ := h
        rw [if_pos (by simp [Region.wanted, hgd])]
        obtain ⟨f, args, q1, q2⟩ := evE_ok hτ hM (opnd_VR ht) (fun i _ => hR.kl _ (Nat.le_add_right _ _)) hE h1
        unfold Oper.wp
        rw [q1]
        refine q2.mono ?_
        rintro e w' ⟨i, hi, v, rfl, hL⟩
        obtain ⟨h4, h5⟩ := h3 i hi
        exact hK' _ _ (EvQ_ok hT hσ hτ hQ r _ _ _ h5 (hR.step (o := o) (out := ⟨E.v i, E.eff i, True⟩) ⟨h2, h4⟩ hM ht hL))
    · split at h
      · rename_i out hout
        obtain ⟨⟨hok, v1⟩, v2⟩ := h
        refine evG_ok hT hσ hM ht (fun i _ => hR.kl _ (Nat.le_add_right _ _)) hout v1 fun v w' hL => hK' _ _ ?_
        exact EvQ_ok hT hσ hτ hQ r _ _ w' v2 (hR.step hok hM ht hL)
      · exact h.elim
theorem WA.regQ {s : St} {id : Nat} {l : List Oper} {y : Code} (hT : TysOK P ty) (hσ : SgOK P σ) (hτ : Sg2OK P τ) (h : ∀ K : St → Prop, (∀ s', WA P X y Q s' → K s') → EvQ ty σ τ (fun j => (l[j]?).bind (·.dst)) l s K) : WA P X (.seq (.region id l.toArray false) y) Q s := by
  refine WA.seq fun a w hR => wp_region_list ?_
  have h1 := h (fun s' => WA P X y Q s') (fun _ h => h)
  refine EvQ_ok hT hσ hτ (K := fun s' => WA P X y Q s') (fun s' hs a' w' hR' => hs a' w' hR') l s a w ?_ hR
  have e : (fun j : Nat => (l.toArray[j]?).bind Oper.dst) = fun j : Nat => (l[j]?).bind Oper.dst := by funext j; simp
  rw [e]
  exact h1
theorem WA.regQE {s : St} {id : Nat} {l : List Oper} (hT : TysOK P ty) (hσ : SgOK P σ) (hτ : Sg2OK P τ) (h : ∀ K : St → Prop, (∀ s', (∀ a w, Rel X s' a w → Q .normal a w) → K s') → EvQ ty σ τ (fun j => (l[j]?).bind (·.dst)) l s K) : WA P X (.region id l.toArray false) Q s := by
  refine fun a w hR => wp_region_list ?_
  have h1 := h (fun s' => ∀ a w, Rel X s' a w → Q .normal a w) (fun _ h => h)
  refine EvQ_ok hT hσ hτ (K := fun s' => ∀ a w, Rel X s' a w → Q .normal a w) (fun s' hs a' w' hR' => hs a' w' hR') l s a w ?_ hR
  have e : (fun j : Nat => (l.toArray[j]?).bind Oper.dst) = fun j : Nat => (l[j]?).bind Oper.dst := by funext j; simp
  rw [e]
  exact h1
/-! ## Ways that meet -/
theorem WA.join {I : Type} {c z : Code} {s : St} (st : I → St) (inv : I → Prop) (hc : WA P X c (Exit.then (fun a w => ∃ i, inv i ∧ Rel X (st i) a w) Q) s) (hz : ∀ i, inv i → WA P X z Q (st i)) : WA P X (.seq c z) Q s :=
  WA.seq fun a w hR => wp_mono (hc a w hR) fun e a w h => by
    cases e with
    | normal =>
      obtain ⟨i, hi, hR'⟩ := h
      exact hz i hi a w hR'
    | _ => exact h
theorem joinE {I : Type} {s : St} {nl : Nat} (hX : X.nl = nl) (ρ : Nat → Nat) {st : I → St} {inv : I → Prop} (j : I) (hj : inv j) (hC : wkC nl ρ s (st j)) : ∀ a w, Rel X s a w → Exit.then (fun a w => ∃ j, inv j ∧ Rel X (st j) a w) Q .normal a w :=
  fun a w hR => ⟨j, hj, hR.wk hX ρ hC⟩
theorem WN.join {I : Type} {s : St} {nl : Nat} (hX : X.nl = nl) (ρ : Nat → Nat) {st : I → St} {inv : I → Prop} (j : I) (hj : inv j) (hC : wkC nl ρ s (st j)) : WN X (Exit.then (fun a w => ∃ j, inv j ∧ Rel X (st j) a w) Q) s :=
  fun a w hR => ⟨j, hj, hR.wk hX ρ hC⟩
end
attribute [go_sem] EvQ evE
end Go.TravelAbs
