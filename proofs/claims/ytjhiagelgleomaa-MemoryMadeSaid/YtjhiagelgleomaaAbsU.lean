import Derived.Test.YtjhiagelgleomaaAbsT
namespace Go.TravelAbs
open Go.RowKit Go.TravelBase
set_option linter.unusedVariables false
set_option linter.unusedSimpArgs false

/-! ## The types of a program, checked by the kernel -/
def vEq : Value → Value → Bool
  | .int k n, .int k' n' => decide (k = k') && decide (n = n')
  | .bool a, .bool b => a == b
  | .string a, .string b => decide (a.data = b.data)
  | .slice none 0 0, .slice none 0 0 => true
  | .pointer none, .pointer none => true
  | .nilFunc, .nilFunc => true
  | .nilIface, .nilIface => true
  | _, _ => false
theorem vEq_ok {a b : Value} (h : vEq a b = true) : a = b := by
  unfold vEq at h
  split at h
  · simp only [Bool.and_eq_true, decide_eq_true_eq] at h; rw [h.1, h.2]
  · simp only [beq_iff_eq] at h; rw [h]
  · simp only [decide_eq_true_eq] at h
    rename_i x y
    cases x; cases y
    simp only at h
    rw [h]
  all_goals first | rfl | cases h
def vsEq : List Value → List Value → Bool
  | [], [] => true
  | a :: r, b :: r' => vEq a b && vsEq r r'
  | _, _ => false
theorem vsEq_ok : ∀ {a b : List Value}, vsEq a b = true → a = b
  | [], [], _ => rfl
  | a :: r, b :: r', h => by
    simp only [vsEq, Bool.and_eq_true] at h
    rw [vEq_ok h.1, vsEq_ok h.2]
  | [], _ :: _, h => by cases h
  | _ :: _, [], h => by cases h
def kindB (P : Program) (d : TypeDesc) : TK → Bool
  | .one => !rowB (some d)
  | .int k => (match d with | .int k' => decide (k' = k) | _ => false)
  | .bool => (match d with | .bool => true | _ => false)
  | .str => (match d with | .string => true | _ => false)
  | .slice e => (match d with | .slice e' => e' == e | _ => false)
  | .struct fs => (match d with | .struct fields => fieldsB P fields == fs | _ => false)
  | .array n e => (match d with | .array n' e' => n' == n && e' == e | _ => false)
theorem kindB_ok {P : Program} {d : TypeDesc} {k : TK} (h : kindB P d k = true) : KOK P d k := by
  cases k <;> simp only [kindB] at h <;> simp only [KOK]
  case one => simpa using h
  case int k => cases d <;> simp at h; rw [h]
  case bool => cases d <;> simp at h; rfl
  case str => cases d <;> simp at h; rfl
  case slice e => cases d <;> simp at h; rw [h]
  case struct fs => cases d <;> simp at h; exact ⟨_, rfl, h⟩
  case array n e => cases d <;> simp at h; rw [h.1, h.2]
def tyB (P : Program) (t : Nat) (ti : TI) : Bool :=
  match P.info? t, P.underlying t with
  | some i, some d => i.size == ti.size && i.bytes == ti.bytes && (match i.zero with | some z => vsEq z.cells.toList ti.zero | none => false) && kindB P d ti.kind
  | _, _ => false
theorem tyB_ok {P : Program} {t : Nat} {ti : TI} (h : tyB P t ti = true) : TyOK P t ti := by
  unfold tyB at h
  split at h
  · rename_i i d hi hu
    simp only [Bool.and_eq_true, beq_iff_eq] at h
    obtain ⟨⟨⟨h1, h2⟩, h3⟩, h4⟩ := h
    split at h3
    · rename_i z hz
      exact ⟨i, d, z, hi, hu, h1, h2, hz, vsEq_ok h3, kindB_ok h4⟩
    · cases h3
  · cases h
def tyOf (l : List (Nat × TI)) : Ty := fun t => lk l t
theorem tysOK {P : Program} {l : List (Nat × TI)} (h : l.all (fun x => tyB P x.1 x.2) = true) : TysOK P (tyOf l) := by
  intro t ti ht
  exact tyB_ok (List.all_eq_true.1 h _ (lk_mem ht))
/-! ## A region, as one proposition -/
def EvR (ty : Ty) (σ : Sg) (gd : Nat → Option Tmp) (l : List Oper) (s : St) (K : St → Prop) : Prop :=
  match evL ty σ gd l s with
  | some (s', vc) => vc ∧ K s'
  | none => False
section
variable {P : Program} {ty : Ty} {X : Cx} {H : List (Nat × Blk)} {S : CSet} {m : RMap} {w : World} {σ : Sg} {Q : Exit → Act → World → Prop}
theorem WA.regionK {s : St} {id : Nat} {l : List Oper} {y : Code} (hT : TysOK P ty) (hσ : SgOK P σ) (h : ∀ K : St → Prop, (∀ s', WA P X y Q s' → K s') → EvR ty σ (fun j => (l[j]?).bind (·.dst)) l s K) : WA P X (.seq (.region id l.toArray false) y) Q s := by
  have h1 := h (fun s' => WA P X y Q s') (fun _ h => h)
  unfold EvR at h1
  split at h1
  · rename_i s' vc he
    refine WA.regionS hT hσ (vc := vc) (s' := s') ?_ h1.1 h1.2
    rw [← he]
    congr 1
    funext j
    simp
  · exact h1.elim
theorem WA.regionE {s : St} {id : Nat} {l : List Oper} (hT : TysOK P ty) (hσ : SgOK P σ) (h : ∀ K : St → Prop, (∀ s', (∀ a w, Rel X s' a w → Q .normal a w) → K s') → EvR ty σ (fun j => (l[j]?).bind (·.dst)) l s K) : WA P X (.region id l.toArray false) Q s := by
  have h1 := h (fun s' => ∀ a w, Rel X s' a w → Q .normal a w) (fun _ h => h)
  unfold EvR at h1
  split at h1
  · rename_i s' vc he
    refine WA.region hT hσ (vc := vc) (s' := s') ?_ h1.1 h1.2
    rw [← he]
    congr 1
    funext j
    simp
  · exact h1.elim
/-- Behind code that is one part of a sequence: the rest. -/
theorem WA.skipT {s : St} {z : Code} (h : WA P X z Q s) : WA P X .skip (Exit.then (fun a w => z.wp P Q a w) Q) s := WA.skip h
theorem wrap_i64 {x : Int} (h1 : -9223372036854775808 ≤ x) (h2 : x ≤ 9223372036854775807) : IntKind.i64.wrap x = x := by
  rw [IntKind.wrap_i64]
  omega
theorem inR_i64 {x : Int} : inR .i64 x ↔ -9223372036854775808 ≤ x ∧ x ≤ 9223372036854775807 := by
  unfold inR
  rw [IntKind.wrap_i64]
  omega
theorem inR_u8 {x : Int} : inR .u8 x ↔ 0 ≤ x ∧ x ≤ 255 := by
  unfold inR
  rw [IntKind.wrap_u8]
  omega
theorem byteOK_int {k : IntKind} {z : Int} : byteOK (.lit (.int k z)) ↔ k = .u8 ∧ 0 ≤ z ∧ z < 256 := by
  unfold byteOK bA toB
  constructor
  · intro h
    simp only [AV.lit.injEq, Value.int.injEq] at h
    have := (UInt8.ofNat z.toNat).toNat_lt
    exact ⟨h.1, by omega⟩
  · rintro ⟨rfl, h1, h2⟩
    simp only [AV.lit.injEq, Value.int.injEq, true_and]
    rw [UInt8.toNat_ofNat']
    omega
theorem Rd_of_VR {bs : List UInt8} {v : Value} (h : VR w S m (.by_ bs) v) (hs : ∀ b o, S b o → b < w.heap.size) : ∃ A c, v = .slice A bs.length c ∧ Rd w A bs.length c (bvs bs) := by
  cases h with
  | by_ hn hc hm h0 hA =>
    subst hn
    refine ⟨_, _, rfl, by simp [bvs], hc, hm, h0, fun hpos => ?_⟩
    obtain ⟨b, off, rfl, h1⟩ := hA.at_ hpos
    refine ⟨b, off, rfl, hs _ _ (h1 0 hpos).1, fun j u hu => ?_⟩
    have hj : j < bs.length := by have := (List.getElem?_eq_some_iff.1 hu).1; simpa [bvs] using this
    rw [(h1 j hj).2]
    simp only [bvs, List.getElem?_map, List.getElem?_eq_getElem hj, Option.map_some, Option.some.injEq] at hu
    subst hu
    simp [bv, List.getD, List.getElem?_eq_getElem hj]
theorem VR_of_Rd {bs : List UInt8} {A : Option Addr} {n c : Nat} (h : Rd w A n c (bvs bs)) (hs : ∀ b o, b < w.heap.size → S b o) : VR w S m (.by_ bs) (.slice A n c) := by
  have hl : bs.length = n := by have := h.len; simpa [bvs] using this
  refine .by_ hl h.cap h.2.2.1 h.2.2.2.1 ?_
  rcases Nat.eq_zero_or_pos n with h0 | hpos
  · exact .inl h0
  · obtain ⟨b, off, rfl, hlt, hc⟩ := h.at_ hpos
    refine .inr ⟨b, off, rfl, fun i hi => ⟨hs _ _ hlt, hc i _ ?_⟩⟩
    have hi' : i < bs.length := by omega
    simp [bvs, List.getElem?_eq_getElem hi', List.getD, bv]
/-- What an own slice of bytes is to the caller. -/
theorem Mem_of_Ap {w' : World} {T : TypeId} {A : Option Addr} {n c : Nat} {bs : List UInt8} (hs : ∀ b o, S b o → b < w.heap.size) (h : Ap w' w.heap.size T A n c (bvs bs)) (hb : Below w.heap.size w w') (rows : Nat → Row) :
    ∃ m', Mem ⟨w, S, 0, rows⟩ [(1000, ⟨.by_ bs, 0, false⟩)] S m' w' ∧ VR w' S m' (.sl 1000 1 0 bs.length) (.slice A n c) := by
  have hl : bs.length = n := by have := h.rd.len; simpa [bvs] using this
  have h0 : Mem ⟨w, S, 0, rows⟩ [] S (fun _ => none) w' :=
    ⟨fun p hp => absurd hp (Nat.not_lt_zero p), ⟨hb.os, hb.tape, hb.output, hb.size, fun g hg _ => hb.block g hg⟩, fun _ _ q => q, fun _ _ q => .inl q, fun b o q => Nat.lt_of_lt_of_le (hs b o q) hb.size, fun _ _ => rfl, (fun k b hk => absurd hk (by simp [lk])), (fun k k' b b' r r' hk => absurd hk (by simp [lk]))⟩
  have empty : ∀ (A' : Option Addr), n = 0 → c = 0 → (A' = none → c = 0) → ∃ m', Mem ⟨w, S, 0, rows⟩ [(1000, ⟨.by_ bs, 0, false⟩)] S m' w' ∧ VR w' S m' (.sl 1000 1 0 bs.length) (.slice A' n c) := by
    intro A' hn hc _
    obtain ⟨q1, _⟩ := h0.newE (k := 1000) rfl (c := .by_ bs) (by simp only [cN]; omega)
    refine ⟨_, q1, ?_⟩
    subst hc
    rw [hl]
    exact .sl (k := 1000) (r := ⟨0, 0, cE (.by_ bs)⟩) (by simp [mset]) rfl (by simp only; omega) (Nat.zero_le _) (fun h => absurd h (by simp)) (fun _ => rfl)
  rcases h with h | ⟨hn, hc, _⟩
  · rcases h.2 with ⟨h1, _⟩ | ⟨g, cap, cur, h1, hbg, hg, hnc, hcm, hcs, htake⟩
    · injection h1 with e1 e2 e3
      exact empty A (by omega) e3 (fun _ => e3)
    · injection h1 with e1 e2 e3
      subst e1
      subst e3
      have hha : HA w' S (fun _ => none) 1 (.by_ bs) cur := by
        intro i hi
        simp only [cN] at hi
        refine ⟨rfl, fun j y hy => ?_⟩
        simp only [cAt, cl_bA] at hy
        match j, hy with
        | 0, hy =>
          simp at hy
          subst hy
          have hlt : i < n * 1 := by omega
          have hx : (bvs bs)[i]? = some (bv bs[i]) := by simp [bvs, List.getElem?_eq_getElem hi]
          rw [← htake, List.getElem?_take, if_pos hlt] at hx
          refine ⟨bv bs[i], by simpa using hx, ?_⟩
          have : bA (bs[i]?.getD 0) = .lit (bv bs[i]) := by simp [bA, bv, List.getElem?_eq_getElem hi]
          rw [this]
          exact .lit _
      let r : Row := ⟨g, c, 1⟩
      have hglt : g < w'.heap.size := by
        rcases Nat.lt_or_ge g w'.heap.size with hlt | hge
        · exact hlt
        · rw [Array.getElem?_eq_none hge] at hg; cases hg
      have hM := h0.upd (S' := S) (w' := w') 1000 ⟨.by_ bs, 0, false⟩ r (.inl rfl) (fun _ _ q => ⟨q, rfl⟩) h0.frm h0.s1 h0.slt (fun j bj rj _ hj => absurd hj (by simp [lk])) (fun _ => ⟨rfl, by simp only [cN]; show bs.length ≤ c; omega, hcm, fun i hi => by
          obtain ⟨q1, q2⟩ := hha i hi
          refine ⟨q1, fun j y hy => ?_⟩
          obtain ⟨u, h3, h4⟩ := q2 j y hy
          refine ⟨u, ?_, h4.mono (fun _ _ q => ⟨q, rfl⟩) (fun _ _ q => by cases q)⟩
          unfold World.cell?
          rw [show r.g = g from rfl, hg]
          simpa [r] using h3, fun h => by simp at h, fun _ _ => ⟨hbg, ⟨cur, T, hg, hcs⟩, fun o _ hso => by have h9 : S g o := hso; have := hs _ _ h9; omega⟩⟩)
      refine ⟨_, hM, ?_⟩
      rw [hl]
      have hh := VR.sl (w := w') (S := S) (m := mset (fun _ => none) 1000 r) (k := 1000) (es := 1) (i := 0) (n := n) (r := r) (A := some ⟨g, 0, none⟩) (by simp [mset]) rfl (by show 0 + n ≤ c; omega) hcm (fun _ => by simp [r]) (fun h => by cases h)
      exact hh
  · exact empty A hn hc (fun _ => hc)
/-- Contracts of the elder form. -/
theorem FnS.fr1 {f : FuncId} {args : List AV} {T : TypeId} {L : List UInt8} (h : ∀ (w : World) (S : CSet) (m : RMap) (vs : Array Value), (∀ b o, S b o → b < w.heap.size) → vs.size = args.length → (∀ (j : Nat) (x : AV) (v : Value), args[j]? = some x → vs[j]? = some v → VR w S m x v) → Calls P f vs w (RetS T L.length (bvs L) w)) : FnS P f args [] (.fr (.by_ L)) [] := by
  intro w S rows vs hs hvs ha _ _
  refine (h w S _ vs hs hvs ha).mono ?_
  rintro e w' ⟨A, c, rfl, hap, hb⟩
  obtain ⟨m', q1, q2⟩ := Mem_of_Ap hs hap hb rows
  exact ⟨_, S, m', rfl, q1, q2⟩
theorem FnS.fr2 {f : FuncId} {args : List AV} {T : TypeId} {L : List UInt8} {err : Int} (h : ∀ (w : World) (S : CSet) (m : RMap) (vs : Array Value), (∀ b o, S b o → b < w.heap.size) → vs.size = args.length → (∀ (j : Nat) (x : AV) (v : Value), args[j]? = some x → vs[j]? = some v → VR w S m x v) → Calls P f vs w (RetSE T L.length (bvs L) err w)) : FnS P f args [] (.tup [.fr (.by_ L), .lit (.int .i64 err)]) [] := by
  intro w S rows vs hs hvs ha _ _
  refine (h w S _ vs hs hvs ha).mono ?_
  rintro e w' ⟨A, c, rfl, hap, hb⟩
  obtain ⟨m', q1, q2⟩ := Mem_of_Ap hs hap hb rows
  refine ⟨_, S, m', rfl, q1, ?_⟩
  refine .tup rfl fun j x u hx hu => ?_
  match j, hx, hu with
  | 0, hx, hu =>
    simp [rcv, rcvL, rcvP] at hx hu
    subst hx hu
    exact q2
  | 1, hx, hu =>
    simp [rcv, rcvL, rcvP] at hx hu
    subst hx hu
    exact .lit _
  | j + 2, hx, hu => simp [rcv, rcvL] at hx
end
end Go.TravelAbs
