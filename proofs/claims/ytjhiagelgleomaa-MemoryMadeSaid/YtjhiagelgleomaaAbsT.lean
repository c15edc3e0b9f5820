import Derived.Test.YtjhiagelgleomaaAbsS
namespace Go.TravelAbs
open Go.RowKit Go.TravelBase
set_option linter.unusedVariables false
set_option linter.unusedSimpArgs false

/-! ## A function: its beginning -/
def tmArgs : List AV → Nat → List (Nat × AV)
  | [], _ => []
  | x :: r, p => (p, x) :: tmArgs r (p + 1)
theorem tmArgs_lk : ∀ (l : List AV) (p t : Nat), lk (tmArgs l p) (p + t) = l[t]?
  | [], p, t => by simp [tmArgs, lk]
  | x :: r, p, 0 => by simp [tmArgs, lk]
  | x :: r, p, t + 1 => by
    simp only [tmArgs, lk]
    rw [if_neg (by omega), show p + (t + 1) = p + 1 + t by omega, tmArgs_lk r (p + 1) t]
    simp
theorem lentH_none : ∀ (ls : List AV) (p k : Nat), (k < p ∨ p + ls.length ≤ k) → lk (lentH ls p) k = none
  | [], _, _, _ => rfl
  | x :: r, p, k, h => by
    simp only [List.length_cons] at h
    simp only [lentH, lk]
    rw [if_neg (by omega)]
    exact lentH_none r (p + 1) k (by omega)
theorem lentH_some {ls : List AV} {k : Nat} {b : Blk} (h : lk (lentH ls 0) k = some b) : k < ls.length ∧ b = ⟨ls.getD k .any, 0, true⟩ := by
  rcases Nat.lt_or_ge k ls.length with hk | hk
  · have := lentH_lk ls 0 k _ (List.getElem?_eq_getElem hk)
    rw [Nat.zero_add] at this
    rw [this] at h
    injection h with h
    exact ⟨hk, by rw [← h]; simp [List.getD, List.getElem?_eq_getElem hk]⟩
  · rw [lentH_none ls 0 k (.inr (by omega))] at h
    cases h
def FQ (P : Program) (X : Cx) (fn : Func) (r : AV) (ls' : List AV) : Exit → Act → World → Prop
  | .normal, a, w => a.defers = [] ∧ ∃ v, (results fn a.tmps).run P w = .ok v w ∧ ∃ S' m', Mem X ((rcv 1000 r).2 ++ lentH ls' 0) S' m' w ∧ VR w S' m' (rcv 1000 r).1 v
  | .ret, a, w => a.defers = [] ∧ ∃ v, (results fn a.tmps).run P w = .ok v w ∧ ∃ S' m', Mem X ((rcv 1000 r).2 ++ lentH ls' 0) S' m' w ∧ VR w S' m' (rcv 1000 r).1 v
  | _, _, _ => False
section
variable {P : Program} {ty : Ty} {X : Cx} {H : List (Nat × Blk)} {S : CSet} {m : RMap} {w : World} {σ : Sg} {Q : Exit → Act → World → Prop}
theorem FnE.of {f : FuncId} {fn : Func} {c : Code} {args ls : List AV} {I : Type} {p : I → Prop} {r : I → AV} {ls' : I → List AV} (hf : P.funcs[f]? = some fn) (hb : fn.body = some c) {N : Nat} (hN : fn.ntmps = N) (hn : args.length ≤ N) (hls : ls.length ≤ 2000)
    (h : ∀ X : Cx, X.nl = ls.length → WA P X c (fun e a w => ∃ i, p i ∧ FQ P X fn (r i) (ls' i) e a w) ⟨tmArgs args 0, lentH ls 0, 2000, N⟩) : FnE P f args ls p r ls' := by
  subst hN
  intro w S rows vs hslt hvs hargs hlent hinj
  let X : Cx := ⟨w, S, ls.length, rows⟩
  have hM : Mem X (lentH ls 0) S (mL ls.length rows) w := by
    refine ⟨fun p hp => by simp only [mL]; rw [if_pos (show p < ls.length from hp)], ⟨rfl, rfl, rfl, Nat.le_refl _, fun _ _ _ => rfl⟩, fun _ _ q => q, fun _ _ q => .inl q, hslt, fun k hk => ?_, fun k b hk => ?_, fun k k' b b' q q' h1 h2 h3 h4 _ _ _ _ h9 => ?_⟩
    · rcases Nat.lt_or_ge k ls.length with hlt | hge
      · have := lentH_lk ls 0 k _ (List.getElem?_eq_getElem hlt)
        rw [Nat.zero_add, hk] at this
        cases this
      · simp only [mL]
        rw [if_neg (by omega)]
    · obtain ⟨hlt, rfl⟩ := lentH_some hk
      refine ⟨rows k, by simp only [mL]; rw [if_pos hlt], fun _ => ?_⟩
      obtain ⟨hB, hc⟩ := hlent k (ls.getD k .any) (by simp [List.getD, List.getElem?_eq_getElem hlt])
      exact ⟨hB.es, hB.len, hB.max, hB.rd, hB.set, fun hm hc => by
        obtain ⟨_, q2, q3⟩ := hB.row hm hc
        exact ⟨by show X.lent _; exact ⟨k, hlt, rfl⟩, q2, q3⟩⟩
    · obtain ⟨a1, _⟩ := lentH_some h1
      obtain ⟨a2, _⟩ := lentH_some h2
      simp only [mL, if_pos a1] at h3
      simp only [mL, if_pos a2] at h4
      injection h3 with h3
      injection h4 with h4
      subst h3 h4
      exact hinj k k' a1 a2 h9
  refine calls_of_wp hf hb ?_
  have hR : Rel X ⟨tmArgs args 0, lentH ls 0, 2000, fn.ntmps⟩ { tmps := vs ++ Array.replicate (fn.ntmps - vs.size) undef, defers := [] } w := by
    refine ⟨by simp; omega, rfl, fun k hk => lentH_none ls 0 k (.inr (by have : 2000 ≤ k := hk; omega)), S, mL ls.length rows, hM, fun t => ?_⟩
    have e := tmArgs_lk args 0 t
    rw [Nat.zero_add] at e
    simp only [gt, e]
    cases ht : args[t]? with
    | none => exact .any _
    | some x =>
      have hlt : t < vs.size := by rw [hvs]; exact (List.getElem?_eq_some_iff.1 ht).1
      have e2 : (vs ++ Array.replicate (fn.ntmps - vs.size) undef).getD t undef = vs[t] := by
        rw [Array.getD_eq_getD_getElem?, Array.getElem?_append_left hlt, Array.getElem?_eq_getElem hlt]
        rfl
      rw [e2]
      exact hargs t x _ ht (Array.getElem?_eq_getElem hlt)
  refine wp_mono (h X rfl _ w hR) fun e a w' ⟨i, hi, hq⟩ => ?_
  cases e with
  | normal =>
    obtain ⟨h1, v, h2, S', m', h3, h4⟩ := hq
    exact ⟨h1, v, h2, i, hi, v, S', m', rfl, h3, h4⟩
  | ret =>
    obtain ⟨h1, v, h2, S', m', h3, h4⟩ := hq
    exact ⟨h1, v, h2, i, hi, v, S', m', rfl, h3, h4⟩
  | _ => exact hq.elim
theorem FnE.toS {f : FuncId} {args ls : List AV} {r : AV} {ls' : List AV} (h : FnE P f args ls (I := Unit) (fun _ => True) (fun _ => r) (fun _ => ls')) : FnS P f args ls r ls' :=
  fun w S rows vs a b c d e => (h w S rows vs a b c d e).mono fun _ _ ⟨_, _, h⟩ => h
theorem FnS.of {f : FuncId} {fn : Func} {c : Code} {args ls : List AV} {r : AV} {ls' : List AV} (hf : P.funcs[f]? = some fn) (hb : fn.body = some c) {N : Nat} (hN : fn.ntmps = N) (hn : args.length ≤ N) (hls : ls.length ≤ 2000)
    (h : ∀ X : Cx, X.nl = ls.length → WA P X c (FQ P X fn r ls') ⟨tmArgs args 0, lentH ls 0, 2000, N⟩) : FnS P f args ls r ls' :=
  (FnE.of (I := Unit) (p := fun _ => True) (r := fun _ => r) (ls' := fun _ => ls') hf hb hN hn hls fun X hX a w hR => wp_mono (h X hX a w hR) fun _ _ _ hq => ⟨(), trivial, hq⟩).toS
/-! ## .. its end -/
def resA (ty : Ty) (H : List (Nat × Blk)) (tm : List (Nat × AV)) : List ResultVar → Option (List AV × Prop)
  | [] => some ([], True)
  | .tmp t :: r =>
    match resA ty H tm r with
    | some (xs, vc) => some (gt tm t :: xs, vc)
    | none => none
  | .cell a t :: r =>
    match ty t, stp (gt tm a), resA ty H tm r with
    | some ti, .ptr k i off, some (xs, vc) =>
      match lk H k with
      | some b => some ((ldA ti (cAt b.c i) off).1 :: xs, cnd (gt tm a) ∧ b.mode < 3 ∧ i < cN b.c ∧ (ldA ti (cAt b.c i) off).2 ∧ vc)
      | none => none
    | _, _, _ => none
def resV (tmps : Array Value) : ResultVar → Sem Value
  | .tmp t => pure (tmps.getD t undef)
  | .cell a t => do loadVar t (← asAddr (tmps.getD a undef))
theorem resA_ok (hT : TysOK P ty) (hM : Mem X H S m w) {tm : List (Nat × AV)} {a : Act} (ht : TmR w S m tm a) : ∀ (l : List ResultVar) (xs : List AV) (vc : Prop), resA ty H tm l = some (xs, vc) → vc →
    ∃ vs : List Value, (l.mapM (resV a.tmps)).run P w = .ok vs w ∧ vs.length = xs.length ∧ ∀ (j : Nat) (x : AV) (v : Value), xs[j]? = some x → vs[j]? = some v → VR w S m x v
  | [], xs, vc, h, _ => by
    simp only [resA, Option.some.injEq, Prod.mk.injEq] at h
    obtain ⟨rfl, _⟩ := h
    exact ⟨[], by simp, rfl, fun j x v hx => by simp at hx⟩
  | .tmp t :: r, xs, vc, h, hvc => by
    simp only [resA] at h
    split at h
    · rename_i xs' vc' h1
      simp only [Option.some.injEq, Prod.mk.injEq] at h
      obtain ⟨rfl, rfl⟩ := h
      obtain ⟨vs, a1, a2, a3⟩ := resA_ok hT hM ht r xs' vc' h1 hvc
      refine ⟨a.tmps.getD t undef :: vs, by simp [List.mapM_cons, resV, a1], by simp [a2], fun j x v hx hv => ?_⟩
      match j, hx, hv with
      | 0, hx, hv =>
        simp only [List.getElem?_cons_zero, Option.some.injEq] at hx hv
        subst hx hv
        exact ht t
      | j + 1, hx, hv => exact a3 j x v (by simpa using hx) (by simpa using hv)
    · cases h
  | .cell b t :: r, xs, vc, h, hvc => by
    simp only [resA] at h
    split at h
    · rename_i q1 q2 ti k i off xs' vc' hty hs h1
      split at h
      · rename_i bl hb
        simp only [Option.some.injEq, Prod.mk.injEq] at h
        obtain ⟨rfl, rfl⟩ := h
        obtain ⟨c1, c2, c3, c4, c5⟩ := hvc
        obtain ⟨vs, a1, a2, a3⟩ := resA_ok hT hM ht r xs' vc' h1 c5
        have hp := (ht b).strip c1
        rw [hs] at hp
        obtain ⟨row, hr, e1⟩ := hp.ptr_inv
        obtain ⟨r', h2, h3⟩ := hM.blk k bl hb
        rw [hr] at h2
        injection h2 with h2
        subst h2
        obtain ⟨_, h4⟩ := (h3 c2).rd i c3
        obtain ⟨u, h5, h6⟩ := ldA_ok hT hty (o := i * row.es) (off := off) h4 c4
        have h7 : (loadVar t ⟨row.g, i * row.es + off, none⟩).run P w = .ok u w := by simpa [Instr.loadAt, Instr.sureAddr] using h5
        refine ⟨u :: vs, by simp only [List.mapM_cons, resV, e1, asAddr]; simp [h7, a1], by simp [a2], fun j x v hx hv => ?_⟩
        match j, hx, hv with
        | 0, hx, hv =>
          simp only [List.getElem?_cons_zero, Option.some.injEq] at hx hv
          subst hx hv
          exact h6
        | j + 1, hx, hv => exact a3 j x v (by simpa using hx) (by simpa using hv)
      · cases h
    · cases h
mutual
/-- What reads as y reads as x too: a nil slice is an empty list. -/
def sbT : AV → AV → Prop
  | .lit v, x =>
    match x with
    | .by_ bs => v = .slice none 0 0 ∧ bs = []
    | .li es xs => v = .slice none 0 0 ∧ xs = [] ∧ 0 < es
    | x => AV.lit v = x
  | .agg ys, x =>
    match x with
    | .agg xs => sbL ys xs
    | x => AV.agg ys = x
  | y, x => y = x
def sbL : List AV → List AV → Prop
  | [], xs => xs = []
  | y :: ys, xs =>
    match xs with
    | [] => False
    | x :: xs => sbT y x ∧ sbL ys xs
end
mutual
theorem sbT_VR : ∀ (y x : AV) (v : Value), sbT y x → VR w S m y v → VR w S m x v
  | .lit v0, x, v, h, hv => by
    unfold sbT at h
    obtain rfl := hv.lit_inv
    split at h
    · obtain ⟨rfl, rfl⟩ := h
      exact .by_ rfl (Nat.le_refl _) (Nat.zero_le _) (fun _ => rfl) (.inl rfl)
    · obtain ⟨rfl, rfl, h3⟩ := h
      exact .li (fun _ => default) rfl (Nat.le_refl _) (Nat.zero_le _) (fun _ => rfl) h3 (fun x hx => absurd hx (by simp)) (.inl (Nat.zero_mul _)) (fun i j x y hx => absurd hx (by simp))
    · subst h; exact hv
  | .agg ys, x, v, h, hv => by
    unfold sbT at h
    split at h
    · rename_i xs
      cases hv with
      | agg hl hh =>
        rename_i cs
        obtain ⟨h1, h2⟩ := sbL_VR ys xs cs.toList h (fun j x u hx hu => hh j x u hx (by simpa using hu))
        exact .agg (by rw [hl, h1]) (fun j x u hx hu => h2 j x u hx (by simpa using hu))
    · subst h; exact hv
  | .by_ _, x, v, h, hv => by unfold sbT at h; subst h; exact hv
  | .li _ _, x, v, h, hv => by unfold sbT at h; subst h; exact hv
  | .tup _, x, v, h, hv => by unfold sbT at h; subst h; exact hv
  | .sl _ _ _ _, x, v, h, hv => by unfold sbT at h; subst h; exact hv
  | .ptr _ _ _, x, v, h, hv => by unfold sbT at h; subst h; exact hv
  | .ep _ _, x, v, h, hv => by unfold sbT at h; subst h; exact hv
  | .clo _ _, x, v, h, hv => by unfold sbT at h; subst h; exact hv
  | .opt _ _, x, v, h, hv => by unfold sbT at h; subst h; exact hv
  | .fr _, x, v, h, hv => by unfold sbT at h; subst h; exact hv
  | .any, x, v, h, hv => by unfold sbT at h; subst h; exact hv
theorem sbL_VR : ∀ (ys xs : List AV) (vs : List Value), sbL ys xs → (∀ (j : Nat) (y : AV) (u : Value), ys[j]? = some y → vs[j]? = some u → VR w S m y u) → ys.length = xs.length ∧ ∀ (j : Nat) (x : AV) (u : Value), xs[j]? = some x → vs[j]? = some u → VR w S m x u
  | [], xs, vs, h, _ => by
    unfold sbL at h
    subst h
    exact ⟨rfl, fun j x u hx => absurd hx (by simp)⟩
  | y :: ys, xs, vs, h, hv => by
    unfold sbL at h
    split at h
    · exact h.elim
    · rename_i x xs
      match vs with
      | [] =>
        obtain ⟨q1, _⟩ := sbL_VR ys xs [] h.2 (fun j y u _ hu => absurd hu (by simp))
        exact ⟨by simp [q1], fun j x u _ hu => absurd hu (by simp)⟩
      | u0 :: us =>
        obtain ⟨q1, q2⟩ := sbL_VR ys xs us h.2 (fun j y u hy hu => hv (j + 1) y u (by simpa using hy) (by simpa using hu))
        refine ⟨by simp [q1], fun j x' u hx hu => ?_⟩
        match j, hx, hu with
        | 0, hx, hu =>
          simp only [List.getElem?_cons_zero, Option.some.injEq] at hx hu
          subst hx hu
          exact sbT_VR y x u0 h.1 (hv 0 y u0 rfl rfl)
        | j + 1, hx, hu => exact q2 j x' u (by simpa using hx) (by simpa using hu)
end
def fz1 (H : List (Nat × Blk)) (y x : AV) : Option (AV × List (Nat × Blk) × Prop) :=
  match x with
  | .fr _ => some (stp y, [], cnd y)
  | x =>
    match cvX H (stp y) with
    | some (y', e, v) => some (x, e, cnd y ∧ v ∧ sbT y' x ∧ Tr x)
    | none => none
def fzL (H : List (Nat × Blk)) : List AV → List AV → Option (List AV × List (Nat × Blk) × Prop)
  | [], [] => some ([], [], True)
  | y :: ys, x :: xs =>
    match fz1 H y x with
    | some (y', e1, v1) =>
      match fzL (e1 ++ H) ys xs with
      | some (ys', e2, v2) => some (y' :: ys', e2 ++ e1, v1 ∧ v2)
      | none => none
    | none => none
  | _, _ => none
def kOf : AV → Nat
  | .sl k _ _ _ => k
  | .ptr k _ _ => k
  | _ => 0
def frs (H : List (Nat × Blk)) : List AV → List AV → Prop
  | y :: ys, .fr c :: xs => (y = fv (kOf y) c ∧ lk H (kOf y) = some ⟨fc c, 0, false⟩ ∧ TrC (fc c)) ∧ frs H ys xs
  | _ :: ys, _ :: xs => frs H ys xs
  | _, _ => True
def frks : List AV → List AV → List Nat
  | y :: ys, .fr c :: xs => kOf y :: frks ys xs
  | _ :: ys, _ :: xs => frks ys xs
  | _, _ => []
def lnt (H : List (Nat × Blk)) : List AV → Nat → Prop
  | [], _ => True
  | c :: r, p => (lk H p = some ⟨c, 0, true⟩ ∧ TrC c) ∧ lnt H r (p + 1)
theorem lnt_at : ∀ (ls : List AV) (p i : Nat) (c : AV), lnt H ls p → ls[i]? = some c → lk H (p + i) = some ⟨c, 0, true⟩ ∧ TrC c
  | [], _, _, _, _, h => by simp at h
  | x :: r, p, 0, c, h, hc => by
    simp only [List.getElem?_cons_zero, Option.some.injEq] at hc
    subst hc
    exact h.1
  | x :: r, p, i + 1, c, h, hc => by
    rw [show p + (i + 1) = p + 1 + i by omega]
    exact lnt_at r (p + 1) i c h.2 (by simpa using hc)
theorem rcvL_inv : ∀ (xs : List AV) (fr k : Nat) (L : List (Nat × Blk)) (b : Blk), lk ((rcvL fr xs).2 ++ L) k = some b → (∃ j c, k = fr + j ∧ xs[j]? = some (.fr c) ∧ b = ⟨fc c, 0, false⟩) ∨ lk L k = some b
  | [], _, _, _, _, h => .inr h
  | x :: r, fr, k, L, b, h => by
    simp only [rcvL] at h
    unfold rcvP at h
    split at h
    · rename_i c
      simp only [List.cons_append, List.nil_append, lk] at h
      split at h
      · rename_i e
        injection h with h
        exact .inl ⟨0, c, e, rfl, h.symm⟩
      · rcases rcvL_inv r (fr + 1) k L b h with ⟨j, c', h1, h2, h3⟩ | h
        · exact .inl ⟨j + 1, c', by omega, by simpa using h2, h3⟩
        · exact .inr h
    · simp only [List.nil_append] at h
      rcases rcvL_inv r (fr + 1) k L b h with ⟨j, c', h1, h2, h3⟩ | h
      · exact .inl ⟨j + 1, c', by omega, by simpa using h2, h3⟩
      · exact .inr h
theorem fzL_ok : ∀ (ys xs : List AV) (H : List (Nat × Blk)) (S : CSet) (zs : List AV) (e : List (Nat × Blk)) (vc : Prop) (vs : List Value), Mem X H S m w → (∀ (j : Nat) (y : AV) (v : Value), ys[j]? = some y → vs[j]? = some v → VR w S m y v) → vs.length = ys.length → fzL H ys xs = some (zs, e, vc) → vc →
    ∃ S', Mem X (e ++ H) S' m w ∧ Adv S m w S' m w ∧ zs.length = ys.length ∧ xs.length = ys.length ∧ (∀ (j : Nat) (z : AV) (v : Value), zs[j]? = some z → vs[j]? = some v → VR w S' m z v) ∧ ∀ (j : Nat) (x : AV), xs[j]? = some x → (∀ c, x ≠ .fr c) → zs[j]? = some x ∧ Tr x
  | [], [], H, S, zs, e, vc, vs, hM, _, _, h, _ => by
    simp only [fzL, Option.some.injEq, Prod.mk.injEq] at h
    obtain ⟨rfl, rfl, _⟩ := h
    exact ⟨S, hM, Adv.refl _ _ _, rfl, rfl, (fun j z v hz => absurd hz (by simp)), (fun j x hx => absurd hx (by simp))⟩
  | [], _ :: _, _, _, _, _, _, _, _, _, _, h, _ => by simp [fzL] at h
  | _ :: _, [], _, _, _, _, _, _, _, _, _, h, _ => by simp [fzL] at h
  | y :: ys, x :: xs, H, S, zs, e, vc, vs, hM, hv, hl, h, hvc => by
    simp only [fzL] at h
    split at h
    · rename_i y' e1 v1 h1
      split at h
      · rename_i ys' e2 v2 h2
        simp only [Option.some.injEq, Prod.mk.injEq] at h
        obtain ⟨rfl, rfl, rfl⟩ := h
        match vs, hl with
        | v :: vs, hl =>
          have hy : ∃ S1, Mem X (e1 ++ H) S1 m w ∧ Adv S m w S1 m w ∧ VR w S1 m y' v ∧ ((∀ c, x ≠ .fr c) → y' = x ∧ Tr x) := by
            unfold fz1 at h1
            split at h1
            · rename_i c
              simp only [Option.some.injEq, Prod.mk.injEq] at h1
              obtain ⟨rfl, rfl, rfl⟩ := h1
              exact ⟨S, hM, Adv.refl _ _ _, (hv 0 y v rfl rfl).strip hvc.1, fun h => absurd rfl (h c)⟩
            · split at h1
              · rename_i y2 e3 v3 h3
                simp only [Option.some.injEq, Prod.mk.injEq] at h1
                obtain ⟨rfl, rfl, rfl⟩ := h1
                obtain ⟨S1, a1, a2, a3, a4⟩ := cvX_ok hM ((hv 0 y v rfl rfl).strip hvc.1.1) h3 hvc.1.2.1
                exact ⟨S1, a1, a2, sbT_VR _ _ _ hvc.1.2.2.1 a3, fun _ => ⟨rfl, hvc.1.2.2.2⟩⟩
              · cases h1
          obtain ⟨S1, a1, a2, a3, a4⟩ := hy
          obtain ⟨S2, b1, b2, b3, b4, b5, b6⟩ := fzL_ok ys xs (e1 ++ H) S1 ys' e2 v2 vs a1 (fun j x u hx hu => (hv (j + 1) x u (by simpa using hx) (by simpa using hu)).adv a2) (by simpa using hl) h2 hvc.2
          refine ⟨S2, by rw [List.append_assoc]; exact b1, a2.trans b2, by simp [b3], by simp [b4], fun j z u hz hu => ?_, fun j x' hx hne => ?_⟩
          · match j, hz, hu with
            | 0, hz, hu =>
              simp only [List.getElem?_cons_zero, Option.some.injEq] at hz hu
              subst hz hu
              exact a3.adv b2
            | j + 1, hz, hu => exact b5 j z u (by simpa using hz) (by simpa using hu)
          · match j, hx with
            | 0, hx =>
              simp only [List.getElem?_cons_zero, Option.some.injEq] at hx
              subst hx
              obtain ⟨q1, q2⟩ := a4 hne
              exact ⟨by simp [q1], q2⟩
            | j + 1, hx => simpa using b6 j x' (by simpa using hx) hne
      · cases h
    · cases h
theorem frs_at : ∀ (ys xs : List AV) (j : Nat) (y c : AV), frs H ys xs → ys[j]? = some y → xs[j]? = some (.fr c) → y = fv (kOf y) c ∧ lk H (kOf y) = some ⟨fc c, 0, false⟩ ∧ TrC (fc c)
  | [], _, _, _, _, _, h, _ => by simp at h
  | _ :: _, [], _, _, _, _, _, h => by simp at h
  | y0 :: ys, x0 :: xs, 0, y, c, h, hy, hx => by
    simp only [List.getElem?_cons_zero, Option.some.injEq] at hy hx
    subst hy hx
    exact h.1
  | y0 :: ys, x0 :: xs, j + 1, y, c, h, hy, hx => by
    refine frs_at ys xs j y c ?_ (by simpa using hy) (by simpa using hx)
    unfold frs at h
    split at h
    · rename_i e1 e2
      injection e1 with _ e1
      injection e2 with _ e2
      subst e1 e2
      exact h.2
    · rename_i e1 e2
      injection e1 with _ e1
      injection e2 with _ e2
      subst e1 e2
      exact h
    · rename_i hne
      exact absurd rfl (hne _ _ _ _ rfl)
theorem frks_mem : ∀ (ys xs : List AV) (j : Nat) (y c : AV), ys[j]? = some y → xs[j]? = some (.fr c) → kOf y ∈ frks ys xs
  | [], _, _, _, _, h, _ => by simp at h
  | _ :: _, [], _, _, _, _, h => by simp at h
  | y0 :: ys, x0 :: xs, 0, y, c, hy, hx => by
    simp only [List.getElem?_cons_zero, Option.some.injEq] at hy hx
    subst hy hx
    simp [frks]
  | y0 :: ys, x0 :: xs, j + 1, y, c, hy, hx => by
    have := frks_mem ys xs j y c (by simpa using hy) (by simpa using hx)
    unfold frks
    split
    · rename_i e1 e2
      injection e1 with _ e1
      injection e2 with _ e2
      subst e1 e2
      exact List.mem_cons_of_mem _ this
    · rename_i e1 e2
      injection e1 with _ e1
      injection e2 with _ e2
      subst e1 e2
      exact this
    · rename_i hne
      exact absurd rfl (hne _ _ _ _ rfl)
theorem frks_inj : ∀ (ys xs : List AV) (j j' : Nat) (y y' c c' : AV), (frks ys xs).Nodup → ys[j]? = some y → xs[j]? = some (.fr c) → ys[j']? = some y' → xs[j']? = some (.fr c') → kOf y = kOf y' → j = j'
  | [], _, _, _, _, _, _, _, _, h, _, _, _, _ => by simp at h
  | _ :: _, [], _, _, _, _, _, _, _, _, h, _, _, _ => by simp at h
  | y0 :: ys, x0 :: xs, j, j', y, y', c, c', hnd, hy, hx, hy', hx', he => by
    have htail : (frks ys xs).Nodup := by
      unfold frks at hnd
      split at hnd
      · rename_i e1 e2
        injection e1 with _ e1
        injection e2 with _ e2
        subst e1 e2
        exact (List.nodup_cons.1 hnd).2
      · rename_i e1 e2
        injection e1 with _ e1
        injection e2 with _ e2
        subst e1 e2
        exact hnd
      · rename_i hne
        exact absurd rfl (hne _ _ _ _ rfl)
    match j, j', hy, hx, hy', hx' with
    | 0, 0, _, _, _, _ => rfl
    | j + 1, j' + 1, hy, hx, hy', hx' =>
      rw [frks_inj ys xs j j' y y' c c' htail (by simpa using hy) (by simpa using hx) (by simpa using hy') (by simpa using hx') he]
    | 0, j' + 1, hy, hx, hy', hx' =>
      exfalso
      simp only [List.getElem?_cons_zero, Option.some.injEq] at hy hx
      subst hy hx
      have := frks_mem ys xs j' y' c' (by simpa using hy') (by simpa using hx')
      simp only [frks, List.nodup_cons] at hnd
      exact hnd.1 (he ▸ this)
    | j + 1, 0, hy, hx, hy', hx' =>
      exfalso
      simp only [List.getElem?_cons_zero, Option.some.injEq] at hy' hx'
      subst hy' hx'
      have := frks_mem ys xs j y c (by simpa using hy) (by simpa using hx)
      simp only [frks, List.nodup_cons] at hnd
      exact hnd.1 (he ▸ this)
def isT : AV → Bool
  | .tup _ => true
  | _ => false
def mkR : List AV → AV
  | [x] => x
  | xs => .tup xs
theorem rcv_single {x : AV} (h : isT x = false) (fr : Nat) : rcv fr x = rcvP fr x := by
  cases x <;> first | rfl | cases h
theorem rcvL_single (x : AV) (fr : Nat) : (rcvL fr [x]).2 = (rcvP fr x).2 := by simp [rcvL]
/-- A function's end. -/
theorem exit_ok (hT : TysOK P ty) {s : St} {a : Act} {w : World} (hR : Rel X s a w) {fn : Func} {ys zs xs : List AV} {e : List (Nat × Blk)} {ls' : List AV} {v0 v1 : Prop} (hres : resA ty s.H s.tm fn.results.toList = some (ys, v0)) (hv0 : v0) (hfz : fzL s.H ys xs = some (zs, e, v1)) (hv1 : v1)
    (hfr : frs (e ++ s.H) zs xs) (hnd : (frks zs xs).Nodup) (hln : lnt (e ++ s.H) ls' 0) (hnl : X.nl = ls'.length) (h1000 : ls'.length < 1000) (hsg : ∀ x, xs = [x] → isT x = false) :
    a.defers = [] ∧ ∃ v, (results fn a.tmps).run P w = .ok v w ∧ ∃ S' m', Mem X ((rcv 1000 (mkR xs)).2 ++ lentH ls' 0) S' m' w ∧ VR w S' m' (rcv 1000 (mkR xs)).1 v := by
  obtain ⟨S, m, hM, ht⟩ := hR.mem
  obtain ⟨vs, a1, a2, a3⟩ := resA_ok hT hM ht _ ys v0 hres hv0
  obtain ⟨S1, b1, b2, b3, b4, b5, b6⟩ := fzL_ok ys xs s.H S zs e v1 vs hM a3 a2 hfz hv1
  let ρ : Nat → Nat := fun k => if k < 1000 then k else kOf (zs.getD (k - 1000) .any)
  have hrcv : (rcv 1000 (mkR xs)).2 = (rcvL 1000 xs).2 := by
    match xs, hsg with
    | [], _ => rfl
    | [x], hsg =>
      rw [show mkR [x] = x from rfl, rcv_single (hsg x rfl), rcvL_single]
    | _ :: _ :: _, _ => rfl
  have hcase : ∀ k b, lk ((rcvL 1000 xs).2 ++ lentH ls' 0) k = some b → (∃ j c y, k = 1000 + j ∧ xs[j]? = some (.fr c) ∧ b = ⟨fc c, 0, false⟩ ∧ zs[j]? = some y ∧ ρ k = kOf y ∧ y = fv (kOf y) c ∧ lk (e ++ s.H) (kOf y) = some ⟨fc c, 0, false⟩ ∧ TrC (fc c)) ∨
      (k < 1000 ∧ k < ls'.length ∧ ρ k = k ∧ lk (e ++ s.H) k = some b ∧ b.ln = true ∧ TrC b.c) := by
    intro k b hk
    rcases rcvL_inv _ _ _ _ _ hk with ⟨j, c, h1, h2, h3⟩ | h
    · left
      have hj : j < zs.length := by rw [b3, ← b4]; exact (List.getElem?_eq_some_iff.1 h2).1
      have hy := getD_of_lt (d := AV.any) hj
      obtain ⟨q1, q2, q3⟩ := frs_at zs xs j _ c hfr hy h2
      exact ⟨j, c, zs.getD j .any, h1, h2, h3, hy, by simp only [ρ, h1]; rw [if_neg (by omega), Nat.add_sub_cancel_left], q1, q2, q3⟩
    · right
      obtain ⟨h1, rfl⟩ := lentH_some h
      have := lnt_at ls' 0 k _ hln (List.getElem?_eq_getElem h1)
      rw [Nat.zero_add] at this
      have e1 : ls'.getD k .any = ls'[k] := by simp [List.getD, List.getElem?_eq_getElem h1]
      rw [e1]
      exact ⟨by omega, h1, by simp only [ρ]; rw [if_pos (by omega)], this.1, rfl, this.2⟩
  obtain ⟨m', hM', hm'⟩ := b1.weak ρ (H' := (rcvL 1000 xs).2 ++ lentH ls' 0) (fun p hp => by
    rw [hnl] at hp
    refine ⟨by simp only [ρ]; rw [if_pos (by omega)], ?_⟩
    rw [rcvL_lo _ _ _ _ (by omega)]
    have := lentH_lk ls' 0 p _ (List.getElem?_eq_getElem hp)
    rw [Nat.zero_add] at this
    rw [this]
    rfl) (fun k k' b b' h1 h2 _ _ he => by
    rcases hcase k b h1 with ⟨j, c, y, p1, p2, p3, p4, p5, p6, p7, p8⟩ | ⟨p1, p2, p3, p4, p5, p6⟩ <;> rcases hcase k' b' h2 with ⟨j', c', y', r1, r2, r3, r4, r5, r6, r7, r8⟩ | ⟨r1, r2, r3, r4, r5, r6⟩
    · have := frks_inj zs xs j j' y y' c c' hnd p4 p2 r4 r2 (by rw [← p5, ← r5]; exact he)
      omega
    · exfalso
      rw [p5, r3] at he
      rw [he, r4] at p7
      injection p7 with p7
      rw [p7] at r5
      cases r5
    · exfalso
      rw [p3, r5] at he
      rw [← he, p4] at r7
      injection r7 with r7
      rw [r7] at p5
      cases p5
    · rw [p3, r3] at he
      exact he) (fun k b hk => by
    rcases hcase k b hk with ⟨j, c, y, p1, p2, p3, p4, p5, p6, p7, p8⟩ | ⟨p1, p2, p3, p4, p5, p6⟩
    · exact ⟨_, by rw [p5]; exact p7, by rw [p3]; exact .tr p8⟩
    · exact ⟨b, by rw [p3]; exact p4, .tr p6⟩)
  have hpart : ∀ (j : Nat) (x : AV) (v : Value), xs[j]? = some x → vs[j]? = some v → VR w S1 m' (rcvP (1000 + j) x).1 v := by
    intro j x v hx hv
    have hj : j < zs.length := by rw [b3, ← b4]; exact (List.getElem?_eq_some_iff.1 hx).1
    have hz := getD_of_lt (d := AV.any) hj
    have hzv := b5 j _ v hz hv
    unfold rcvP
    split
    · rename_i c
      obtain ⟨q1, q2, q3⟩ := frs_at zs xs j _ c hfr hz hx
      have hlk := rcvL_lk xs 1000 j c (lentH ls' 0) hx
      have hk : ∀ r, m (kOf (zs.getD j .any)) = some r → m' (1000 + j) = some r := by
        intro r h1
        rw [hm' _ _ hlk]
        simp only [ρ]
        rw [if_neg (by omega), Nat.add_sub_cancel_left]
        exact h1
      rw [q1] at hzv
      revert hzv
      generalize kOf (zs.getD j .any) = kk at hk
      intro hzv
      unfold fv at hzv ⊢
      split at hzv
      · cases hzv with
        | ptr h1 => exact .ptr (hk _ h1)
      · obtain ⟨r, A, h1, h2, h3, h4, h5, h6, rfl⟩ := hzv.sl_inv
        exact .sl (hk _ h1) h2 h3 h4 h5 h6
    · rename_i hne
      obtain ⟨q1, q2⟩ := b6 j x hx (fun c h => hne c h)
      rw [hz] at q1
      injection q1 with q1
      rw [q1] at hzv
      exact q2 _ _ _ _ hzv m'
  have hlen : vs.length = xs.length := by rw [a2, b4]
  have hresults : (results fn a.tmps).run P w = .ok (if h : vs.toArray.size = 1 then vs.toArray[0] else .tuple vs.toArray) w := by
    have e1 : (fn.results.mapM (resV a.tmps)).run P w = .ok vs.toArray w := by
      rw [Array.mapM_eq_mapM_toList]
      simp [a1]
    show ((fn.results.mapM (resV a.tmps) >>= fun vs => pure (if h : vs.size = 1 then vs[0] else .tuple vs) : Sem Value)).run P w = _
    rw [Sem.run_bind, e1]
    rfl
  refine ⟨hR.defers, _, hresults, S1, m', by rw [hrcv]; exact hM', ?_⟩
  match xs, hsg, hlen, hpart with
  | [x], hsg, hlen, hpart =>
    have h1 : vs.length = 1 := by simpa using hlen
    obtain ⟨v, rfl⟩ := List.length_eq_one_iff.1 h1
    rw [show mkR [x] = x from rfl, rcv_single (hsg x rfl)]
    simpa using hpart 0 x v rfl rfl
  | [], _, hlen, hpart =>
    have h1 : vs = [] := List.eq_nil_of_length_eq_zero (by simpa using hlen)
    subst h1
    exact .tup rfl fun j x u hx => by simp [rcvL] at hx
  | x :: x' :: r, _, hlen, hpart =>
    rw [dif_neg (by simp [hlen])]
    refine .tup (by simp [rcvL_len, hlen]) fun j y u hy hu => ?_
    rw [rcvL_at] at hy
    obtain ⟨z, h1, rfl⟩ := Option.map_eq_some_iff.1 hy
    exact hpart j z u h1 (by simpa using hu)
end
end Go.TravelAbs
