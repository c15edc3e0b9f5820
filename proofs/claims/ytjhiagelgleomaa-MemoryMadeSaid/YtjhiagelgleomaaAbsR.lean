import Derived.Test.YtjhiagelgleomaaAbsQ
namespace Go.TravelAbs
open Go.RowKit Go.TravelBase
set_option linter.unusedVariables false
set_option linter.unusedSimpArgs false

/-! ## Evaluation under more blocks -/
def Ag (H H' : List (Nat × Blk)) : Prop := ∀ k b, lk H k = some b → lk H' k = some b
theorem lk_append {α : Type} : ∀ (a b : List (Nat × α)) (k : Nat), lk (a ++ b) k = match lk a k with | some x => some x | none => lk b k
  | [], b, k => rfl
  | x :: a, b, k => by
    simp only [List.cons_append, lk]
    split
    · rfl
    · exact lk_append a b k
theorem Ag.app {H H' : List (Nat × Blk)} (h : Ag H H') (e : List (Nat × Blk)) : Ag (e ++ H) (e ++ H') := by
  intro k b hk
  rw [lk_append] at hk ⊢
  cases he : lk e k with
  | some x => rw [he] at hk; exact hk
  | none => rw [he] at hk; exact h k b hk
section
variable {ty : Ty} {σ : Sg} {H H' : List (Nat × Blk)}
theorem asL_mono (h : Ag H H') {x : AV} {r : AV × Prop} (ha : asL H x = some r) : asL H' x = some r := by
  unfold asL at ha ⊢
  split at ha
  · exact ha
  · exact ha
  · exact ha
  · split at ha
    · rename_i b hb
      rw [h _ _ hb]
      exact ha
    · cases ha
  · cases ha
theorem evM_mono (h : Ag H H') {fr : Nat} {g : Operand → AV} {op : Op} {out : Out} (he : evM ty H fr g op = some out) : evM ty H' fr g op = some out := by
  unfold evM at he ⊢
  split at he
  · exact he
  · exact he
  · split at he
    · rename_i q1 ti k i off ht hs
      try simp only [ht, hs]
      split at he
      · rename_i b hb
        rw [h _ _ hb]
        exact he
      · cases he
    · rename_i q1 ti x off ht hs
      try simp only [ht, hs]
      exact he
    · cases he
  · split at he
    · rename_i q1 ti k i off ht hs
      try simp only [ht, hs]
      split at he
      · rename_i b hb
        rw [h _ _ hb]
        exact he
      · cases he
    · cases he
  · exact he
  · exact he
  · exact he
  · split at he
    · rename_i e q1 q2 q3 y a b ht ha hb
      try simp only [ht, ha, hb]
      split at he
      · rename_i te c vc hte hl
        simp only [hte, asL_mono h hl]
        exact he
      · cases he
    · cases he
  · exact he
  · exact he
  · exact he
  · split at he
    · rename_i s x t u hargs hats
      try simp only [hargs, hats]
      split at he
      · rename_i e q1 q2 q3 e' q4 q5 q6 c vc ht hu hl
        simp only [ht, hu, asL_mono h hl]
        split at he
        · rename_i te hte hs
          try simp only [hte, hs]
          exact he
        · rename_i te k es i n hte hs
          try simp only [hte, hs]
          split at he
          · rename_i b hb
            rw [h _ _ hb]
            exact he
          · cases he
        · cases he
      · cases he
    · cases he
  · split at he
    · rename_i s x t u hargs hats
      try simp only [hargs, hats]
      split at he
      · rename_i e q1 q2 q3 e' q4 q5 q6 c vc k es i n ht hu hl hs
        simp only [ht, hu, asL_mono h hl, hs]
        split at he
        · rename_i te b hte hb
          simp only [hte, h _ _ hb]
          exact he
        · cases he
      · cases he
    · cases he
  · cases he
theorem cv1_mono (h : Ag H H') {x : AV} {r : AV × List (Nat × Blk) × Prop} (he : cv1 H x = some r) : cv1 H' x = some r := by
  unfold cv1 at he ⊢
  split at he
  · split at he
    · rename_i b hb
      rw [h _ _ hb]
      exact he
    · cases he
  · exact he
theorem cvL_mono : ∀ (xs : List AV) {H H' : List (Nat × Blk)} (h : Ag H H') {r : List AV × List (Nat × Blk) × Prop}, cvL H xs = some r → cvL H' xs = some r
  | [], _, _, _, _, he => he
  | x :: xs, H, H', h, r, he => by
    simp only [cvL] at he ⊢
    split at he
    · rename_i y e1 v1 h1
      simp only [cv1_mono h h1]
      split at he
      · rename_i ys e2 v2 h2
        simp only [cvL_mono xs (h.app e1) h2]
        exact he
      · cases he
    · cases he
theorem cvX_mono (h : Ag H H') {x : AV} {r : AV × List (Nat × Blk) × Prop} (he : cvX H x = some r) : cvX H' x = some r := by
  unfold cvX at he ⊢
  split at he
  · split at he
    · rename_i ys e v h1
      simp only [cvL_mono _ h h1]
      exact he
    · cases he
  · exact cv1_mono h he
theorem cvA_mono : ∀ (xs : List AV) (p : Nat) {H H' : List (Nat × Blk)} (h : Ag H H') {r : List AV × List Nat × List (Nat × Blk) × Prop}, cvA H xs p = some r → cvA H' xs p = some r
  | [], _, _, _, _, _, he => he
  | x :: xs, p, H, H', h, r, he => by
    simp only [cvA] at he ⊢
    split at he
    · split at he
      · rename_i ys ks e v h1
        simp only [cvA_mono xs (p + 1) h h1]
        exact he
      · cases he
    · split at he
      · rename_i y e1 v1 h1
        simp only [cvX_mono h h1]
        split at he
        · rename_i ys ks e2 v2 h2
          simp only [cvA_mono xs p (h.app e1) h2]
          exact he
        · cases he
      · cases he
theorem lkAll_mono (h : Ag H H') : ∀ (ks : List Nat) {bs : List Blk}, lkAll H ks = some bs → lkAll H' ks = some bs
  | [], _, he => he
  | k :: ks, bs, he => by
    simp only [lkAll] at he ⊢
    split at he
    · rename_i b bs' h1 h2
      simp only [h _ _ h1, lkAll_mono h ks h2]
      exact he
    · cases he
theorem evC_mono (h : Ag H H') {fr : Nat} {g : Operand → AV} {op : Op} {out : Out} (he : evC σ H fr g op = some out) : evC σ H' fr g op = some out := by
  unfold evC at he ⊢
  split at he
  · split at he
    · rename_i fid caps hf
      try simp only [hf]
      split at he
      · rename_i ars ks e1 v1 h1
        simp only [cvA_mono _ 0 h h1]
        split at he
        · rename_i bs hbs
          simp only [lkAll_mono (h.app e1) _ hbs]
          exact he
        · cases he
      · cases he
    · cases he
  · cases he
def blind : Op → Bool
  | .load _ _ => false
  | .store _ _ _ => false
  | .slice _ _ _ _ (some _) => false
  | .call ⟨.builtin .append, _, _⟩ => false
  | .call ⟨.builtin .copy, _, _⟩ => false
  | .call ⟨.value _, _, _⟩ => false
  | _ => true
theorem evM_blind {fr : Nat} {g : Operand → AV} {op : Op} (hb : blind op = true) : evM ty H fr g op = evM ty H' fr g op := by
  unfold evM
  split <;> first | rfl | (simp [blind] at hb; done) | skip
theorem evC_blind {fr : Nat} {g : Operand → AV} {op : Op} (hb : blind op = true) : evC σ H fr g op = evC σ H' fr g op := by
  unfold evC
  split
  · simp [blind] at hb
  · rfl
theorem evX_blind {fr : Nat} {g : Operand → AV} {op : Op} (hb : blind op = true) : evX ty σ H fr g op = evX ty σ H' fr g op := by
  unfold evX
  rw [evM_blind (H := H) (H' := H') hb, evC_blind (H := H) (H' := H') hb]
theorem evX_mono (h : Ag H H') {fr : Nat} {g : Operand → AV} {op : Op} {out : Out} (he : evX ty σ H fr g op = some out) : evX ty σ H' fr g op = some out := by
  unfold evX at he ⊢
  split at he
  · exact he
  · split at he
    · rename_i out' h1
      simp only [evM_mono h h1]
      exact he
    · have h2 := evC_mono h he
      have : evM ty H' fr g op = none := by
        unfold evC at he
        split at he
        · rfl
        · cases he
      simp only [this, h2]
theorem evA_congr {g g' : Operand → AV} (op : Op) (h : ∀ x ∈ op.operands.toList, g x = g' x) : evA ty g op = evA ty g' op := by
  cases op with
  | move x => simp only [evA, h x (by simp [Op.operands])]
  | assign x => simp only [evA, h x (by simp [Op.operands])]
  | pick c a b => simp only [evA, h c (by simp [Op.operands]), h a (by simp [Op.operands]), h b (by simp [Op.operands])]
  | binOp o t x y u => simp only [evA, h x (by simp [Op.operands]), h y (by simp [Op.operands])]
  | unOp o t x => simp only [evA, h x (by simp [Op.operands])]
  | nilCheck x => simp only [evA, h x (by simp [Op.operands])]
  | convert a b x => simp only [evA, h x (by simp [Op.operands])]
  | extract t i => simp only [evA, h t (by simp [Op.operands])]
  | makeFunc f first caps =>
    cases f <;> simp only [evA]
    have h1 : caps.toList.map (fun x => stp (g x)) = caps.toList.map (fun x => stp (g' x)) := List.map_congr_left fun x hx => by rw [h x (by simp [Op.operands]; exact .inr (by simpa using hx))]
    have h2 : (∀ x ∈ caps.toList, cnd (g x)) = (∀ x ∈ caps.toList, cnd (g' x)) := by
      apply propext
      exact ⟨fun q x hx => by rw [← h x (by simp [Op.operands]; exact .inr (by simpa using hx))]; exact q x hx, fun q x hx => by rw [h x (by simp [Op.operands]; exact .inr (by simpa using hx))]; exact q x hx⟩
    rw [h1, h2]
  | fieldAddr t x f => simp only [evA, h x (by simp [Op.operands])]
  | field t x f => simp only [evA, h x (by simp [Op.operands])]
  | indexAddr t x i => simp only [evA, h x (by simp [Op.operands]), h i (by simp [Op.operands])]
  | index t x i => simp only [evA, h x (by simp [Op.operands]), h i (by simp [Op.operands])]
  | slice t x lo hi mx =>
    cases mx with
    | some m => simp only [evA]
    | none =>
      have hx := h x (by simp [Op.operands])
      cases lo with
      | none =>
        cases hi with
        | none => simp [evA, hx]
        | some y =>
          have hy := h y (by simp [Op.operands])
          simp [evA, hx, hy]
      | some z =>
        have hz := h z (by simp [Op.operands])
        cases hi with
        | none => simp [evA, hx, hz]
        | some y =>
          have hy := h y (by simp [Op.operands])
          simp [evA, hx, hy, hz]
  | _ => rfl
theorem all_congr {α : Type} {l : List α} {f : α → Operand} {g g' : Operand → AV} (h : ∀ x ∈ l, g (f x) = g' (f x)) : (l.map fun x => stp (g (f x))) = (l.map fun x => stp (g' (f x))) ∧ (∀ x ∈ l, cnd (g (f x))) = (∀ x ∈ l, cnd (g' (f x))) :=
  ⟨List.map_congr_left fun x hx => by rw [h x hx], propext ⟨fun q x hx => by rw [← h x hx]; exact q x hx, fun q x hx => by rw [h x hx]; exact q x hx⟩⟩
theorem parts_congr {l : List (Nat × Operand)} {g g' : Operand → AV} (h : ∀ p ∈ l, g p.2 = g' p.2) : (l.map fun p => (p.1, stp (g p.2))) = (l.map fun p => (p.1, stp (g' p.2))) :=
  List.map_congr_left fun x hx => by rw [h x hx]
theorem evM_congr {fr : Nat} {g g' : Operand → AV} (op : Op) (h : ∀ x ∈ op.operands.toList, g x = g' x) : evM ty H fr g op = evM ty H fr g' op := by
  cases op with
  | box t x => simp only [evM, h x (by simp [Op.operands])]
  | load t x => simp only [evM, h x (by simp [Op.operands])]
  | store t a x => simp only [evM, h x (by simp [Op.operands]), h a (by simp [Op.operands])]
  | build t parts =>
    have hp : ∀ p ∈ parts.toList, g p.2 = g' p.2 := fun p hp => h p.2 (by simp only [Op.operands]; simp; exact ⟨p.1, by simpa using hp⟩)
    simp only [evM, parts_congr hp, (all_congr (f := fun p : Nat × Operand => p.2) hp).2]
  | buildSlice t n parts =>
    have hp : ∀ p ∈ parts.toList, g p.2 = g' p.2 := fun p hp => h p.2 (by simp only [Op.operands]; simp; exact ⟨p.1, by simpa using hp⟩)
    simp only [evM, (all_congr (f := fun p : Nat × Operand => p.2) hp).1, (all_congr (f := fun p : Nat × Operand => p.2) hp).2]
  | makeSlice t x y => simp only [evM, h x (by simp [Op.operands]), h y (by simp [Op.operands])]
  | slice t x lo hi mx =>
    have hx := h x (by simp [Op.operands])
    cases lo <;> cases hi <;> cases mx <;> simp only [evM]
    rename_i y z
    simp only [hx, h y (by simp [Op.operands]), h z (by simp [Op.operands])]
  | call c =>
    obtain ⟨callee, args, ats⟩ := c
    have ha : ∀ x ∈ args.toList, g x = g' x := fun x hx => h x (by simp only [Op.operands, Call.operands]; simp; exact .inr (by simpa using hx))
    cases callee with
    | builtin b =>
      cases b <;> simp only [evM]
      all_goals
        first
        | rfl
        | (split
           · rename_i x y e
             have h1 := ha x (by rw [e]; simp)
             have h2 := ha y (by rw [e]; simp)
             simp only [h1, h2]
           · rfl)
        | (split
           · rename_i s x t u e e2
             have h1 := ha s (by rw [e]; simp)
             have h2 := ha x (by rw [e]; simp)
             simp only [h1, h2]
           · rfl)
        | (split
           · rename_i x t e e2
             have h1 := ha x (by rw [e]; simp)
             simp only [h1]
           · rfl)
    | _ => rfl
  | _ => rfl
theorem evC_congr {fr : Nat} {g g' : Operand → AV} (op : Op) (h : ∀ x ∈ op.operands.toList, g x = g' x) : evC σ H fr g op = evC σ H fr g' op := by
  cases op with
  | call c =>
    obtain ⟨callee, args, ats⟩ := c
    have ha : ∀ x ∈ args.toList, g x = g' x := fun x hx => h x (by simp only [Op.operands, Call.operands]; simp; exact .inr (by simpa using hx))
    cases callee with
    | value f =>
      have hf := h f (by simp [Op.operands, Call.operands])
      simp only [evC, hf, (all_congr (f := id) ha).1, (all_congr (f := id) ha).2]
      have e1 : args.toList.map (fun x => stp (g x)) = args.toList.map (fun x => stp (g' x)) := (all_congr (f := id) ha).1
      have e2 : (∀ x ∈ args.toList, cnd (g x)) = (∀ x ∈ args.toList, cnd (g' x)) := (all_congr (f := id) ha).2
      rw [e1, e2]
    | _ => rfl
  | _ => rfl
theorem evX_congr {fr : Nat} {g g' : Operand → AV} (op : Op) (h : ∀ x ∈ op.operands.toList, g x = g' x) : evX ty σ H fr g op = evX ty σ H fr g' op := by
  unfold evX
  rw [evA_congr op h, evM_congr op h, evC_congr op h]
end
end Go.TravelAbs
