import Derived.WalkKit
import Derived.Deep.AppendLies
import Derived.Lib.Hide
import Derived.Deep.Draws
import Derived.Deep.QuietTactic
import Derived.Deep.RegionLaw
import Derived.WalkSpells
import Derived.BigQuiet
namespace Go.TravelBase
open Go.RowKit
set_option linter.unusedVariables false
set_option linter.unusedSimpArgs false

/-! ## Bytes as values -/
/-- A byte as a value. -/
def bv (b : UInt8) : Value := .int .u8 (b.toNat : Int)
def bvs (l : List UInt8) : List Value := l.map bv
theorem length_bvs (l : List UInt8) : (bvs l).length = l.length := by simp [bvs]
theorem bvs_append (a b : List UInt8) : bvs (a ++ b) = bvs a ++ bvs b := by simp [bvs]
theorem bvs_get {l : List UInt8} {j : Nat} {b : UInt8} (h : l[j]? = some b) : (bvs l)[j]? = some (bv b) := by simp [bvs, h]
theorem bvs_inj {a b : List UInt8} (h : bvs a = bvs b) : a = b := by
  induction a generalizing b with
  | nil => cases b with
    | nil => rfl
    | cons y b => simp [bvs] at h
  | cons x a ih => cases b with
    | nil => simp [bvs] at h
    | cons y b =>
      simp only [bvs, List.map_cons, List.cons.injEq, bv, Value.int.injEq, true_and] at h
      have hx : x = y := UInt8.toNat_inj.1 (by omega)
      rw [hx, ih h.2]
theorem one_bvs (l : List UInt8) : ∀ u ∈ bvs l, u.oneCell' = true := by
  intro u hu
  simp only [bvs, List.mem_map] at hu
  obtain ⟨b, _, rfl⟩ := hu
  rfl

/-! ## Bits of int -/
theorem ofInt_i64 (a : Nat) (ha : a < 9223372036854775808) : (BitVec.ofInt 64 (a : Int)).toNat = a := by
  rw [BitVec.ofInt_natCast, BitVec.toNat_ofNat]; exact Nat.mod_eq_of_lt (by omega)
theorem or_i64 (a b : Nat) (ha : a < 9223372036854775808) (hb : b < 9223372036854775808) : bits .or .i64 (a : Int) (b : Int) = ((a ||| b : Nat) : Int) := by
  have hx : a ||| b < 2 ^ 63 := Nat.or_lt_two_pow (by omega) (by omega)
  show IntKind.i64.wrap ((BitVec.ofInt 64 (a : Int) ||| BitVec.ofInt 64 (b : Int)).toNat : Int) = _
  rw [BitVec.toNat_or, ofInt_i64 a ha, ofInt_i64 b hb, IntKind.wrap_i64]
  omega
theorem and_i64 (a b : Nat) (ha : a < 9223372036854775808) (hb : b < 9223372036854775808) : bits .and .i64 (a : Int) (b : Int) = ((a &&& b : Nat) : Int) := by
  have hx : a &&& b < 2 ^ 63 := Nat.and_lt_two_pow _ (by omega)
  show IntKind.i64.wrap ((BitVec.ofInt 64 (a : Int) &&& BitVec.ofInt 64 (b : Int)).toNat : Int) = _
  rw [BitVec.toNat_and, ofInt_i64 a ha, ofInt_i64 b hb, IntKind.wrap_i64]
  omega
/-- 'n<<8 | c'. -/
theorem or_byte (x b : Nat) (hx : x < 281474976710656) (hb : b < 256) : bits .or .i64 ((x : Int) * 256) (b : Int) = ((x * 256 + b : Nat) : Int) := by
  have e : ((x : Int) * 256) = ((x * 256 : Nat) : Int) := by omega
  rw [e, or_i64 _ _ (by omega) (by omega)]
  have h := Nat.two_pow_add_eq_or_of_lt (i := 8) (b := b) (by omega) x
  have e2 : x * 256 = 2 ^ 8 * x := by omega
  rw [e2, ← h]

/-! ## A slice that reads as a list of cells -/
/-- The slice value '.slice A n c' reads as the n cells xs in the world w. -/
def Rd (w : World) (A : Option Addr) (n c : Nat) (xs : List Value) : Prop :=
  xs.length = n ∧ n ≤ c ∧ c ≤ maxLen ∧ (A = none → c = 0) ∧
    (0 < n → ∃ b off, A = some ⟨b, off, none⟩ ∧ b < w.heap.size ∧ ∀ j u, xs[j]? = some u → w.cell? ⟨b, off + j, none⟩ = some u)

section
variable {w w' : World} {n c : Nat} {A : Option Addr} {xs : List Value}
theorem Rd.len (h : Rd w A n c xs) : xs.length = n := h.1
theorem Rd.cap (h : Rd w A n c xs) : n ≤ c := h.2.1
theorem Rd.max (h : Rd w A n c xs) : c ≤ 9223372036854775807 := h.2.2.1
theorem Rd.nil_ (w : World) : Rd w none 0 0 [] := ⟨rfl, Nat.le_refl _, Nat.zero_le _, fun _ => rfl, fun h => absurd h (by omega)⟩
theorem Rd.none_ (h : Rd w none n c xs) : n = 0 ∧ c = 0 ∧ xs = [] := by
  have h1 := h.2.2.2.1 rfl
  have h2 := h.cap
  have h3 : n = 0 := by omega
  exact ⟨h3, h1, List.eq_nil_of_length_eq_zero (by rw [h.1, h3])⟩
theorem Rd.at_ (h : Rd w A n c xs) (hn : 0 < n) : ∃ b off, A = some ⟨b, off, none⟩ ∧ b < w.heap.size ∧ ∀ j u, xs[j]? = some u → w.cell? ⟨b, off + j, none⟩ = some u := h.2.2.2.2 hn
theorem Rd.below (h : Rd w A n c xs) (hb : Below w.heap.size w w') : Rd w' A n c xs :=
  ⟨h.1, h.2.1, h.2.2.1, h.2.2.2.1, fun hn => by
    obtain ⟨b, off, e, hlt, hc⟩ := h.at_ hn
    exact ⟨b, off, e, Nat.lt_of_lt_of_le hlt hb.size, fun j u hu => (hb.cell (p := ⟨b, off + j, none⟩) hlt).trans (hc j u hu)⟩⟩
theorem Rd.drew (h : Rd w A n c xs) : Rd w.drew A n c xs := h
theorem Rd.drewN (h : Rd w A n c xs) (k : Nat) : Rd (w.drewN k) A n c xs := h
theorem Rd.grown (h : Rd w A n c xs) {row : Option Nat} (hg : w.grownBy w' row) (hne : ∀ b off s, A = some ⟨b, off, s⟩ → some b ≠ row) : Rd w' A n c xs :=
  ⟨h.1, h.2.1, h.2.2.1, h.2.2.2.1, fun hn => by
    obtain ⟨b, off, e, hlt, hc⟩ := h.at_ hn
    exact ⟨b, off, e, Nat.lt_of_lt_of_le hlt hg.size, fun j u hu => (World.cell?_of_block (hg.block b hlt (hne _ _ _ e))).trans (hc j u hu)⟩⟩
theorem Rd.alloc (h : Rd w A n c xs) (o : Obj) : Rd (w.alloc o) A n c xs := h.below ((Below.refl _ _).alloc (Nat.le_refl _) o)

/-- The address that a cut makes. -/
def cutA (A : Option Addr) (c k : Nat) : Option Addr := if c = k then A else A.map (·.add k)
theorem add_plain (b off k : Nat) : (⟨b, off, none⟩ : Addr).add k = ⟨b, off + k, none⟩ := by
  unfold Addr.add; split <;> simp_all
/-- 's[k:]'. -/
theorem Rd.drop (h : Rd w A n c xs) {k : Nat} (hk : k ≤ n) : Rd w (cutA A c k) (n - k) (c - k) (xs.drop k) := by
  have hc := h.cap
  refine ⟨by rw [List.length_drop, h.1], by omega, by have := h.2.2.1; omega, fun e => ?_, fun hn => ?_⟩
  · unfold cutA at e
    split at e
    · omega
    · have := h.2.2.2.1 (by simpa using e)
      omega
  · obtain ⟨b, off, rfl, hlt, hcell⟩ := h.at_ (by omega)
    unfold cutA
    rw [if_neg (by omega)]
    refine ⟨b, off + k, by simp [add_plain], hlt, fun j u hu => ?_⟩
    rw [Nat.add_assoc]
    exact hcell _ u (by rw [← hu, List.getElem?_drop])
/-- 's[:k]'. -/
theorem Rd.take (h : Rd w A n c xs) {k : Nat} (hk : k ≤ n) : Rd w A k c (xs.take k) := by
  have hc := h.cap
  refine ⟨by rw [List.length_take, h.1]; omega, by omega, h.2.2.1, h.2.2.2.1, fun hn => ?_⟩
  obtain ⟨b, off, rfl, hlt, hcell⟩ := h.at_ (by omega)
  refine ⟨b, off, rfl, hlt, fun j u hu => hcell _ u ?_⟩
  rw [List.getElem?_take] at hu
  split at hu
  · exact hu
  · cases hu
theorem Rd.slice (h : Rd w A n c xs) {k m : Nat} (hk : k ≤ m) (hm : m ≤ n) : Rd w (cutA A c k) (m - k) (c - k) ((xs.take m).drop k) := (h.take hm).drop hk

theorem Rd.of_own {base : Nat} {e : TypeId} (h : w.ownsRow base e 1 (.slice A n c) n xs) : Rd w A n c xs := by
  rcases h.2 with ⟨h1, rfl⟩ | ⟨g, cap, cur, h1, hb, hg, hnc, hcm, hcs, htake⟩
  · simp only [Value.slice.injEq] at h1
    obtain ⟨rfl, _, rfl⟩ := h1
    have : xs = [] := List.eq_nil_of_length_eq_zero (by simpa using h.1)
    subst this
    exact Rd.nil_ w
  · simp only [Value.slice.injEq, true_and] at h1
    obtain ⟨rfl, rfl⟩ := h1
    have hlt : g < w.heap.size := by
      rcases Nat.lt_or_ge g w.heap.size with hlt | hge
      · exact hlt
      · rw [Array.getElem?_eq_none hge] at hg; cases hg
    refine ⟨by simpa using h.1, hnc, hcm, fun e => (by cases e), fun hn => ⟨g, 0, rfl, hlt, fun j u hu => ?_⟩⟩
    have hj : j < n * 1 := by
      have := (List.getElem?_eq_some_iff.1 hu).1
      rw [h.1] at this; exact this
    rw [Nat.zero_add, h.cellAt j hj]
    exact hu
end

/-! ## A slice of the call's own -/
theorem ownsRow_below {w w' : World} {base : Nat} {e : TypeId} {size : Nat} {v : Value} {n : Nat} {xs : List Value} (h : w.ownsRow base e size v n xs) (hb : Below w.heap.size w w') : w'.ownsRow base e size v n xs := by
  refine ⟨h.1, ?_⟩
  rcases h.2 with hn | ⟨g, cap, cur, rfl, hbg, hg, rest⟩
  · exact .inl hn
  · have hlt : g < w.heap.size := by
      rcases Nat.lt_or_ge g w.heap.size with hlt | hge
      · exact hlt
      · rw [Array.getElem?_eq_none hge] at hg; cases hg
    exact .inr ⟨g, cap, cur, rfl, hbg, by rw [hb.block g hlt]; exact hg, rest⟩
theorem ownsRow_base {w : World} {base base' : Nat} {e : TypeId} {size : Nat} {v : Value} {n : Nat} {xs : List Value} (h : w.ownsRow base e size v n xs) (hb : base' ≤ base) : w.ownsRow base' e size v n xs := by
  refine ⟨h.1, ?_⟩
  rcases h.2 with hn | ⟨g, cap, cur, rfl, hbg, rest⟩
  · exact .inl hn
  · exact .inr ⟨g, cap, cur, rfl, by omega, rest⟩

theorem Rd.empty_ (w : World) (A : Option Addr) : Rd w A 0 0 [] := ⟨rfl, Nat.le_refl _, Nat.zero_le _, fun _ => rfl, fun h => absurd h (by omega)⟩
/-- A slice to which may be appended: a row of the call's own, or an empty one without room. -/
def Ap (w : World) (base : Nat) (e : TypeId) (A : Option Addr) (n c : Nat) (xs : List Value) : Prop :=
  w.ownsRow base e 1 (.slice A n c) n xs ∨ (n = 0 ∧ c = 0 ∧ xs = [])
theorem Ap.rd {w : World} {base : Nat} {e : TypeId} {A : Option Addr} {n c : Nat} {xs : List Value} (h : Ap w base e A n c xs) : Rd w A n c xs := by
  rcases h with h | h
  · exact Rd.of_own h
  · obtain ⟨rfl, rfl, rfl⟩ := h
    exact Rd.empty_ w A
theorem Ap.below {w w' : World} {base : Nat} {e : TypeId} {A : Option Addr} {n c : Nat} {xs : List Value} (h : Ap w base e A n c xs) (hb : Below w.heap.size w w') : Ap w' base e A n c xs := by
  rcases h with h | h
  · exact .inl (ownsRow_below h hb)
  · exact .inr h
theorem Ap.drew {w : World} {base : Nat} {e : TypeId} {A : Option Addr} {n c : Nat} {xs : List Value} (h : Ap w base e A n c xs) : Ap w.drew base e A n c xs := h
theorem Ap.nil_ (w : World) (base : Nat) (e : TypeId) : Ap w base e none 0 0 [] := .inl (World.ownsRow_nil w base e 1)
theorem Ap.base {w : World} {base base' : Nat} {e : TypeId} {A : Option Addr} {n c : Nat} {xs : List Value} (h : Ap w base e A n c xs) (hb : base' ≤ base) : Ap w base' e A n c xs := by
  rcases h with h | h
  · exact .inl (ownsRow_base h hb)
  · exact .inr h
theorem Ap.block {w : World} {base : Nat} {e : TypeId} {A : Option Addr} {n c : Nat} {xs : List Value} (h : w.ownsRow base e 1 (.slice A n c) n xs) : ∀ k, (Value.slice A n c).ownBlock = some k → base ≤ k ∧ k < w.heap.size := World.ownsRow.lt h

/-- What an append leaves of the world: all blocks, but for the row that is appended to. -/
def Kept (w : World) (base : Nat) (e : TypeId) (A : Option Addr) (n c : Nat) (xs : List Value) (w' : World) : Prop :=
  w.grownBy w' none ∨ (w.grownBy w' (Value.slice A n c).ownBlock ∧ w.ownsRow base e 1 (.slice A n c) n xs)

section
variable {P : Program} (w : World)
/-- append, of a run: the source is read anywhere, the target may be appended to. -/
theorem run_append_ap (base : Nat) (t ty e : TypeId) (i : TypeInfo) (z : Value) (bytes : Nat) (ht : P.underlying t = some (.slice e)) (hi : P.info? e = some i) (hz : i.zero = some z)
    (hsize : i.size = 1) (hby : i.bytes = bytes) (hzs : z.cells.size = 1)
    (A : Option Addr) (n c : Nat) (xs : List Value) (hap : Ap w base e A n c xs)
    (A' : Option Addr) (m c' : Nat) (news : List Value) (hr : Rd w A' m c' news) (h1 : ∀ u ∈ news, u.oneCell' = true)
    (hbytes : (n + m) * bytes ≤ 140737488355328) (hmax : n + m ≤ maxLen) (hbase : base ≤ w.heap.size) :
    ∃ A2 c2 w', (Builtin.append_ #[t, t] ty #[.slice A n c, .slice A' m c']).run P w = .ok (.slice A2 (n + m) c2) w' ∧ Ap w' base e A2 (n + m) c2 (xs ++ news) ∧
      Kept w base e A n c xs w' ∧ Below base w w' ∧ (0 < m → A2 ≠ none) := by
  have hxs : xs.length = n := hap.rd.len
  rcases Nat.eq_zero_or_pos m with hm | hm
  · subst hm
    have hn : news = [] := List.eq_nil_of_length_eq_zero hr.len
    subst hn
    refine ⟨A, c, w, ?_, by simpa using hap, .inl (World.grownBy.refl w _), Below.refl _ _, fun h => absurd h (by omega)⟩
    have hnc := hap.rd.cap
    cases A' with
    | none => cases A <;> simp [Builtin.append_, run_underlying ht, sizeOf, typeInfo, hi, Builtin.lenOf, Builtin.firstCells, hnc, storeCells]
    | some ad => cases A <;> simp [Builtin.append_, run_underlying ht, sizeOf, typeInfo, hi, Builtin.lenOf, Builtin.firstCells, hnc, storeCells, loadCells, loadCellsFrom]
  · obtain ⟨b, off, rfl, hlt, hcell⟩ := hr.at_ hm
    have hnews : ∀ j u, news[j]? = some u → w.cell? ((⟨b, off, none⟩ : Addr).add j) = some u := fun j u hu => by rw [add_plain]; exact hcell j u hu
    have hl : news.length = m * 1 := by rw [hr.len]; omega
    have fin : ∀ (v1 : Value) (w1 : World), w1.ownsRow base e 1 v1 (n + m) (xs ++ news) → ∃ A2 c2, v1 = Value.slice A2 (n + m) c2 ∧ A2 ≠ none := by
      intro v' w' ho
      obtain ⟨g, cap, rfl, _, _⟩ := ho.form (by omega)
      exact ⟨_, _, rfl, by simp⟩
    rcases hap with hown | ⟨hn0, hc0, hx0⟩
    · obtain ⟨v', w', hrun, h2, h3, _⟩ := run_append_own (P := P) w base t ty e i z 1 bytes ht hi hz hsize hby hzs (by omega) _ n xs hown ⟨b, off, none⟩ m c' news hl hnews h1 hmax hbytes hbase
      obtain ⟨A2, c2, rfl, hne⟩ := fin v' w' h2
      exact ⟨A2, c2, w', hrun, .inl h2, .inr ⟨h3, hown⟩, (Below.refl base w).grown h3 hbase (fun k hk => (hown.lt k hk).1), fun _ => hne⟩
    · subst hn0 hc0 hx0
      cases A with
      | none =>
        obtain ⟨v', w', hrun, h2, h3, _⟩ := run_append_own (P := P) w base t ty e i z 1 bytes ht hi hz hsize hby hzs (by omega) (.slice none 0 0) 0 [] (World.ownsRow_nil w base e 1) ⟨b, off, none⟩ m c' news hl hnews h1 hmax hbytes hbase
        obtain ⟨A2, c2, rfl, hne⟩ := fin v' w' h2
        exact ⟨A2, c2, w', hrun, .inl h2, .inl h3, (Below.refl base w).grown h3 hbase (fun k hk => by simp [Value.ownBlock] at hk), fun _ => hne⟩
      | some ad =>
        obtain ⟨v', w', hrun, h2, h3⟩ := run_append_arg_grows (P := P) w t ty e i z 1 bytes ht hi hz hsize hby hzs (by omega) ad 0 0 [] rfl (fun j u hu => by simp at hu) ⟨b, off, none⟩ m c' news hl hnews (by omega) hmax hbytes
        have h2' := ownsRow_base h2 hbase
        obtain ⟨A2, c2, rfl, hne⟩ := fin v' w' h2'
        exact ⟨A2, c2, w', hrun, .inl h2', .inl h3, (Below.refl base w).grown h3 hbase (fun k hk => by cases hk), fun _ => hne⟩
end

/-- append, in a walk. -/
theorem wpList_append_ap {P : Program} (w : World) {ops : Array Oper} {rest : List Oper} {o : Oper} {a : Act} {Q : Exit → Act → World → Prop}
    (hg : o.guard = none) (s x : Operand) (t : TypeId) (hop : o.op = Op.call { callee := Callee.builtin Builtin.append, args := #[s, x], argTypes := #[t, t] })
    (base : Nat) (e : TypeId) (i : TypeInfo) (z : Value) (bytes : Nat) (h1 : P.underlying t = some (.slice e)) (h2 : P.info? e = some i) (h3 : i.zero = some z) (h4 : i.size = 1) (h5 : i.bytes = bytes) (h6 : z.cells.size = 1)
    (A : Option Addr) (n c : Nat) (xs : List Value) (hs : a.eval s = .slice A n c) (hap : Ap w base e A n c xs)
    (A' : Option Addr) (m c' : Nat) (news : List Value) (hx : a.eval x = .slice A' m c') (hr : Rd w A' m c' news) (h1c : ∀ u ∈ news, u.oneCell' = true)
    (hbytes : (n + m) * bytes ≤ 140737488355328) (hmax : n + m ≤ maxLen) (hbase : base ≤ w.heap.size)
    (hK : ∀ A2 c2 w', Ap w' base e A2 (n + m) c2 (xs ++ news) → Kept w base e A n c xs w' → Below base w w' → (0 < m → A2 ≠ none) → wpList P ops Q rest (a.put o.dst (.slice A2 (n + m) c2)) w') :
    wpList P ops Q (o :: rest) a w := by
  refine wpList_plain hg fun K hK' => ?_
  obtain ⟨A2, c2, w', hrun, r1, r2, r3, r4⟩ := run_append_ap (P := P) w base t o.type e i z bytes h1 h2 h3 h4 h5 h6 A n c xs hap A' m c' news hr h1c hbytes hmax hbase
  unfold Oper.wp
  simp [execOp, hop, resolve, invoke, builtin, hs, hx, hrun, Result.andThen]
  exact hK' _ _ (hK A2 c2 w' r1 r2 r3 r4)

/-! ## What a call hands back: bytes of its own and an error -/
/-- A fresh slice of n cells xs (element type e) and an error number. -/
def RetSE (T : TypeId) (n : Nat) (xs : List Value) (err : Int) (w : World) (e : Ending) (w' : World) : Prop :=
  ∃ A c, e = .returned (.tuple #[.slice A n c, .int .i64 err]) ∧ Ap w' w.heap.size T A n c xs ∧ Below w.heap.size w w'
/-- A fresh slice of n cells xs. -/
def RetS (T : TypeId) (n : Nat) (xs : List Value) (w : World) (e : Ending) (w' : World) : Prop :=
  ∃ A c, e = .returned (.slice A n c) ∧ Ap w' w.heap.size T A n c xs ∧ Below w.heap.size w w'
theorem RetSE.nil_ (T : TypeId) (err : Int) (w : World) : RetSE T 0 [] err w (.returned (.tuple #[.slice none 0 0, .int .i64 err])) w :=
  ⟨none, 0, rfl, Ap.nil_ _ _ _, Below.refl _ _⟩

/-! ## Stores into a row of the call's own -/
theorem own_cell {w : World} {base : Nat} {e : TypeId} {g n cap : Nat} {xs : List Value} (h : w.ownsRow base e 1 (.slice (some ⟨g, 0, none⟩) n cap) n xs) {j : Nat} (hj : j < n) :
    (∃ u, w.cell? ⟨g, j, none⟩ = some u) ∧ w.frozen? ⟨g, j, none⟩ = false ∧ g < w.heap.size := by
  refine ⟨?_, h.frozenAt j, (h.lt g rfl).2⟩
  have hl : j < xs.length := by rw [h.1]; omega
  exact ⟨xs[j], by rw [h.cellAt j (by omega)]; exact List.getElem?_eq_getElem hl⟩
theorem own_len {w : World} {base : Nat} {e : TypeId} {v : Value} {n : Nat} {xs : List Value} (h : w.ownsRow base e 1 v n xs) : xs.length = n := by rw [h.1]; omega

/-! ## Big-endian bytes -/
/-- 256 to the power s. -/
def p256 (s : Nat) : Nat := 256 ^ s
theorem p256_pos (s : Nat) : 0 < p256 s := Nat.pow_pos (by omega)
theorem p256_succ (s : Nat) : p256 (s + 1) = p256 s * 256 := Nat.pow_succ 256 s
theorem p256_le {a b : Nat} (h : a ≤ b) : p256 a ≤ p256 b := Nat.pow_le_pow_right (by omega) h
theorem p256_7 : p256 7 = 72057594037927936 := by decide +kernel
theorem two_pow_8 (s : Nat) : (2 : Int) ^ (8 * s) = ((p256 s : Nat) : Int) := by
  unfold p256
  rw [Int.pow_mul]; simp
theorem shr_zero (n : Int) (s : Nat) (h0 : 0 ≤ n) (h : n < (p256 s : Int)) : (n / 2 ^ (8 * s) != 0) = false := by
  rw [two_pow_8, Int.ediv_eq_zero_of_lt h0 h]; rfl
theorem shr_pos (n : Int) (s : Nat) (h : (p256 s : Int) ≤ n) : (n / 2 ^ (8 * s) != 0) = true := by
  rw [two_pow_8, bne_iff_ne]
  have hp : (0 : Int) < (p256 s : Int) := by exact_mod_cast p256_pos s
  have := Int.le_ediv_of_mul_le (a := 1) hp (b := n) (by omega)
  omega
/-- The last i bytes of the number n, big-endian. -/
def beS (n : Nat) : Nat → List UInt8
  | 0 => []
  | i + 1 => UInt8.ofNat (n / p256 i) :: beS n i
theorem length_beS (n : Nat) : ∀ i, (beS n i).length = i
  | 0 => rfl
  | i + 1 => by simp [beS, length_beS n i]
theorem bv_ofNat (x : Nat) : bv (UInt8.ofNat x) = .int .u8 ((x % 256 : Nat) : Int) := by
  unfold bv
  rw [UInt8.toNat_ofNat']
theorem set_fill {z u : Value} (L : List Value) (m : Nat) : (List.replicate (m + 1) z ++ L).set m u = List.replicate m z ++ u :: L := by
  induction m with
  | zero => rfl
  | succ m ih => rw [List.replicate_succ, List.cons_append, List.set_cons_succ, ih]; rfl
theorem made_bytes (n : Nat) : (madeCells (Value.int .u8 0).cells (n * 1)).toList = List.replicate n (.int .u8 0) := by
  rw [Nat.mul_one]; exact toList_madeCells_one _ _
theorem be_shr (n k : Nat) : ((n : Int) / 2 ^ (8 * k) % 256) = ((n / p256 k % 256 : Nat) : Int) := by
  rw [two_pow_8]; simp
theorem be_step {w : World} {base g : Nat} {T : TypeId} {s k n : Nat} {u : Value} (hk : k < s) (h : w.ownsRow base T 1 (.slice (some ⟨g, 0, none⟩) s s) s (List.replicate (s - k) (.int .u8 0) ++ bvs (beS n k)))
    (hu : u = .int .u8 ((n / p256 k % 256 : Nat) : Int)) :
    (w.setCell ⟨g, s - 1 - k, none⟩ u).ownsRow base T 1 (.slice (some ⟨g, 0, none⟩) s s) s (List.replicate (s - (k + 1)) (.int .u8 0) ++ bvs (beS n (k + 1))) := by
  have h1 := (h.stored (s - 1 - k) u).1
  have e : s - k = (s - 1 - k) + 1 := by omega
  rw [e, set_fill] at h1
  have e2 : bvs (beS n (k + 1)) = u :: bvs (beS n k) := by
    rw [hu]
    show bv _ :: bvs _ = _
    rw [bv_ofNat]
  have e3 : s - (k + 1) = s - 1 - k := by omega
  rw [e2, e3]
  exact h1
theorem RetSE.own {T : TypeId} {n g c : Nat} {xs : List Value} {err : Int} {w w' : World} (h : w'.ownsRow w.heap.size T 1 (.slice (some ⟨g, 0, none⟩) n c) n xs) (hb : Below w.heap.size w w') :
    RetSE T n xs err w (.returned (.tuple #[.slice (some ⟨g, 0, none⟩) n c, .int .i64 err])) w' := ⟨_, _, rfl, .inl h, hb⟩

/-! ## Comparing bytes -/
theorem ne_false {x y : UInt8} (h : x = y) : ((x.toNat : Int) != (y.toNat : Int)) = false := by subst h; simp
theorem ne_true {x y : UInt8} (h : x ≠ y) : ((x.toNat : Int) != (y.toNat : Int)) = true := by
  rw [bne_iff_ne]
  intro e
  exact h (UInt8.toNat_inj.1 (by omega))
theorem take_eq_step {α : Type} {xs ys : List α} {k : Nat} (h : xs.take k = ys.take k) (hx : k < xs.length) (hy : k < ys.length) (e : xs[k] = ys[k]) : xs.take (k + 1) = ys.take (k + 1) := by
  rw [List.take_succ_eq_append_getElem hx, List.take_succ_eq_append_getElem hy, h, e]
theorem ne_of_get {α : Type} {xs ys : List α} {k : Nat} (hx : k < xs.length) (hy : k < ys.length) (e : xs[k] ≠ ys[k]) : xs ≠ ys := by
  rintro rfl; exact e rfl
/-- A call that hands back one value and only draws. -/
def RetQ (v : Value) (w : World) (e : Ending) (w' : World) : Prop := e = .returned v ∧ ∃ m, w' = w.drewN m
theorem below_drewN {B : Nat} {a w : World} (h : Below B a w) (n : Nat) : Below B a (w.drewN n) := ⟨h.os, h.tape, h.output, h.size, h.block⟩
theorem RetQ.below {v : Value} {w w' : World} {e : Ending} (h : RetQ v w e w') : e = .returned v ∧ Below w.heap.size w w' := by
  obtain ⟨he, m, rfl⟩ := h
  exact ⟨he, below_drewN (Below.refl _ _) m⟩
theorem RetSE.nil' {T : TypeId} {err : Int} {w w' : World} (hb : Below w.heap.size w w') : RetSE T 0 [] err w (.returned (.tuple #[.slice none 0 0, .int .i64 err])) w' :=
  ⟨none, 0, rfl, Ap.nil_ _ _ _, hb⟩

/-! ## Bytes as a string -/
/-- The string of bytes. -/
def strB (bs : List UInt8) : ByteArray := ⟨bs.toArray⟩
theorem strB_size (bs : List UInt8) : (strB bs).size = bs.length := by simp [strB, ByteArray.size]
theorem strB_list (bs : List UInt8) : (strB bs).data.toList = bs := rfl
theorem strB_inj {a b : List UInt8} (h : strB a = strB b) : a = b := by
  have := congrArg (fun s : ByteArray => s.data.toList) h
  exact this
theorem bvs_ints (bs : List UInt8) : bvs bs = (bs.map fun b => (b.toNat : Int)).map (Value.int .u8) := by simp [bvs, bv]
theorem strB_of_ints (bs : List UInt8) : (bs.map fun b => (b.toNat : Int)).foldl (fun r n => r.push (UInt8.ofNat n.toNat)) ByteArray.empty = strB bs := by
  rw [foldl_push_bytes]
  simp [strB, ByteArray.empty, ByteArray.emptyWithCapacity]
  show [] ++ _ = _
  rw [List.nil_append]
  conv => rhs; rw [← List.map_id bs]
  apply List.map_congr_left
  intro b _
  simp
theorem conv_bytes {P : Program} (w : World) (src dst e : TypeId) (hs : P.underlying src = some (.slice e)) (he : P.underlying e = some (.int .u8)) (hd : P.underlying dst = some .string)
    {A : Option Addr} {n c : Nat} {bs : List UInt8} (h : Rd w A n c (bvs bs)) : (convert src dst (.slice A n c)).run P w = .ok (.string (strB bs)) w := by
  have hl := h.len
  rw [length_bvs] at hl
  cases A with
  | none =>
    obtain ⟨rfl, rfl, h0⟩ := h.none_
    have : bs = [] := List.eq_nil_of_length_eq_zero hl
    subst this
    rw [run_convert_bytes_nil w src e hs he 0 0 dst hd]
    rfl
  | some ad =>
    rw [run_convert_bytes_string w src dst e _ n c hs he hd]
    have hload : (loadCells ad n).run P w = .ok ((bs.map fun b => (b.toNat : Int)).map (Value.int .u8)).toArray w := by
      have := run_loadCells_list (P := P) w ad (bvs bs) (fun j v hj => by
        have hj' : j < n := by
          have := (List.getElem?_eq_some_iff.1 hj).1
          rw [length_bvs] at this
          omega
        obtain ⟨b, off, e1, _, hc⟩ := h.at_ (by omega)
        injection e1 with e1
        subst e1
        rw [add_plain]
        exact hc j v hj)
      rw [length_bvs, hl] at this
      rw [this, bvs_ints]
    rw [run_bytesToString w ad n c _ hload, strB_of_ints]
theorem strB_toList (bs : List UInt8) : (strB bs).toList = bs := ByteArray.toList_mk bs

/-! ## Exclusive or -/
def xorL (a b : List UInt8) : List UInt8 := List.zipWith (· ^^^ ·) a b
theorem length_xorL (a b : List UInt8) (h : a.length = b.length) : (xorL a b).length = a.length := by simp [xorL, h]
theorem xor_u8 (x y : UInt8) : bits .xor .u8 (x.toNat : Int) (y.toNat : Int) = ((x ^^^ y).toNat : Int) := by
  have hx := x.toNat_lt
  have hy := y.toNat_lt
  have e : ∀ n : Nat, n < 256 → (BitVec.ofInt 8 (n : Int)).toNat = n := fun n hn => by
    rw [BitVec.ofInt_natCast, BitVec.toNat_ofNat]; exact Nat.mod_eq_of_lt (by omega)
  have hz : x.toNat ^^^ y.toNat < 2 ^ 8 := Nat.xor_lt_two_pow (by omega) (by omega)
  show IntKind.u8.wrap ((BitVec.ofInt 8 (x.toNat : Int) ^^^ BitVec.ofInt 8 (y.toNat : Int)).toNat : Int) = _
  rw [BitVec.toNat_xor, e _ (by omega), e _ (by omega), IntKind.wrap_u8, UInt8.toNat_xor]
  omega
theorem xor_step {w : World} {base g : Nat} {T : TypeId} {n k : Nat} {a b : List UInt8} (hk : k < n) (ha : a.length = n) (hb : b.length = n)
    (h : w.ownsRow base T 1 (.slice (some ⟨g, 0, none⟩) n n) n (bvs ((xorL a b).take k) ++ List.replicate (n - k) (.int .u8 0))) :
    (w.setCell ⟨g, k, none⟩ (.int .u8 ((a[k] ^^^ b[k]).toNat : Int))).ownsRow base T 1 (.slice (some ⟨g, 0, none⟩) n n) n (bvs ((xorL a b).take (k + 1)) ++ List.replicate (n - (k + 1)) (.int .u8 0)) := by
  have h1 := (h.stored k (.int .u8 ((a[k] ^^^ b[k]).toNat : Int))).1
  have hl : (xorL a b).length = n := by rw [length_xorL _ _ (by omega), ha]
  have e1 : (bvs ((xorL a b).take k)).length = k := by rw [length_bvs, List.length_take]; omega
  have e : n - k = (n - (k + 1)) + 1 := by omega
  rw [List.set_append_right _ _ (by omega), e1, e, List.replicate_succ, Nat.sub_self, List.set_cons_zero] at h1
  have e3 : bvs ((xorL a b).take (k + 1)) = bvs ((xorL a b).take k) ++ [.int .u8 ((a[k] ^^^ b[k]).toNat : Int)] := by
    rw [List.take_succ_eq_append_getElem (by omega), bvs_append]
    simp [bvs, bv, xorL]
  rw [e3, List.append_assoc]
  exact h1

/-! ## Small slices that the call lays -/
theorem Ap.empty (w : World) (base : Nat) (T : TypeId) (A : Option Addr) : Ap w base T A 0 0 [] :=
  .inr ⟨rfl, rfl, rfl⟩
theorem Ap.lit (w : World) (base : Nat) (T : TypeId) (cs : Array Value) (hb : base ≤ w.heap.size) (hm : cs.size ≤ maxLen) : Ap (w.alloc (.cells cs T)) base T (some ⟨w.heap.size, 0, none⟩) cs.size cs.size cs.toList :=
  .inl (World.ownsRow_lit w cs cs.size hb hm (by omega))
theorem Rd.lit (w : World) (T : TypeId) (cs : Array Value) (hm : cs.size ≤ maxLen) : Rd (w.alloc (.cells cs T)) (some ⟨w.heap.size, 0, none⟩) cs.size cs.size cs.toList :=
  (Ap.lit w w.heap.size T cs (Nat.le_refl _) hm).rd
theorem RetS.ap {T : TypeId} {A : Option Addr} {n c : Nat} {xs : List Value} {w w' : World} (h : Ap w' w.heap.size T A n c xs) (hb : Below w.heap.size w w') : RetS T n xs w (.returned (.slice A n c)) w' := ⟨_, _, rfl, h, hb⟩
theorem RetSE.ap {T : TypeId} {A : Option Addr} {n c : Nat} {xs : List Value} {err : Int} {w w' : World} (h : Ap w' w.heap.size T A n c xs) (hb : Below w.heap.size w w') : RetSE T n xs err w (.returned (.tuple #[.slice A n c, .int .i64 err])) w' := ⟨_, _, rfl, h, hb⟩
/-- A row of another element type is not the one that was written. -/
theorem own_ne {w : World} {base base' : Nat} {e e' : TypeId} {v v' : Value} {n n' : Nat} {xs xs' : List Value} (h : w.ownsRow base e 1 v n xs) (h' : w.ownsRow base' e' 1 v' n' xs') (hne : e ≠ e') : v.ownBlock = none ∨ v.ownBlock ≠ v'.ownBlock := by
  rcases h.2 with ⟨rfl, _⟩ | ⟨g, cap, cur, rfl, _, hg, _⟩
  · exact .inl rfl
  · right
    rcases h'.2 with ⟨rfl, _⟩ | ⟨g', cap', cur', rfl, _, hg', _⟩
    · simp [Value.ownBlock]
    · intro e1
      simp only [Value.ownBlock, Option.some.injEq] at e1
      subst e1
      rw [hg] at hg'
      injection hg' with hg'
      injection hg' with _ ht
      exact hne ht
theorem Ap.kept {w w' : World} {base base' : Nat} {e e' : TypeId} {A A' : Option Addr} {n c n' c' : Nat} {xs xs' : List Value} (h : Ap w base e A n c xs) (hk : Kept w base' e' A' n' c' xs' w') (hne : e ≠ e') : Ap w' base e A n c xs := by
  rcases h with h | h
  · left
    rcases hk with hg | ⟨hg, h'⟩
    · exact h.kept hg (by cases hb : (Value.slice A n c).ownBlock <;> simp)
    · exact h.kept hg (own_ne h h' hne)
  · exact .inr h
/-- A value that is a slice of the call's own and holds these bytes (T: the byte's type). -/
def Slv (T : TypeId) (w : World) (base : Nat) (v : Value) (bs : List UInt8) : Prop := ∃ A c, v = .slice A bs.length c ∧ Ap w base T A bs.length c (bvs bs)
/-- A value that is a slice and reads as these bytes. -/
def SlvR (w : World) (v : Value) (bs : List UInt8) : Prop := ∃ A c, v = .slice A bs.length c ∧ Rd w A bs.length c (bvs bs)
theorem Slv.rd {T : TypeId} {w : World} {base : Nat} {v : Value} {bs : List UInt8} (h : Slv T w base v bs) : SlvR w v bs := by
  obtain ⟨A, c, rfl, ha⟩ := h
  exact ⟨A, c, rfl, ha.rd⟩
/-- Two lists of one length, related place by place. -/
def All2 {α β : Type} (R : α → β → Prop) (l : List α) (m : List β) : Prop := l.length = m.length ∧ ∀ (j : Nat) (a : α) (b : β), l[j]? = some a → m[j]? = some b → R a b
theorem All2.nil_ {α β : Type} (R : α → β → Prop) : All2 R [] [] := ⟨rfl, fun j a b h => by simp at h⟩
theorem All2.snoc {α β : Type} {R : α → β → Prop} {l : List α} {m : List β} (h : All2 R l m) {a : α} {b : β} (hab : R a b) : All2 R (l ++ [a]) (m ++ [b]) := by
  refine ⟨by simp [h.1], fun j x y hx hy => ?_⟩
  rcases Nat.lt_or_ge j l.length with hj | hj
  · rw [List.getElem?_append_left hj] at hx
    rw [List.getElem?_append_left (by rw [← h.1]; exact hj)] at hy
    exact h.2 j x y hx hy
  · rw [List.getElem?_append_right hj] at hx
    rw [List.getElem?_append_right (by rw [← h.1]; exact hj)] at hy
    have : j - l.length = 0 := by
      rcases Nat.eq_zero_or_pos (j - l.length) with h0 | h0
      · exact h0
      · rw [List.getElem?_eq_none (by simp; omega)] at hx; cases hx
    rw [this] at hx
    rw [← h.1, this] at hy
    simp at hx hy
    subst hx hy
    exact hab
theorem All2.imp {α β : Type} {R S : α → β → Prop} {l : List α} {m : List β} (h : All2 R l m) (hRS : ∀ a b, R a b → S a b) : All2 S l m := ⟨h.1, fun j a b ha hb => hRS _ _ (h.2 j a b ha hb)⟩
theorem All2.get {α β : Type} {R : α → β → Prop} {l : List α} {m : List β} (h : All2 R l m) {j : Nat} (hj : j < m.length) : ∃ a, l[j]? = some a ∧ R a m[j] := by
  have hl : j < l.length := by rw [h.1]; exact hj
  exact ⟨l[j], List.getElem?_eq_getElem hl, h.2 j _ _ (List.getElem?_eq_getElem hl) (List.getElem?_eq_getElem hj)⟩
theorem Ap.alloc {w : World} {base : Nat} {e : TypeId} {A : Option Addr} {n c : Nat} {xs : List Value} (h : Ap w base e A n c xs) (o : Obj) : Ap (w.alloc o) base e A n c xs := h.below ((Below.refl _ _).alloc (Nat.le_refl _) o)
theorem one_slice (A : Option Addr) (n c : Nat) : ∀ u ∈ [Value.slice A n c], u.oneCell' = true := by
  intro u hu
  simp at hu
  subst hu
  rfl
theorem Below.of_base {B : Nat} {a w w' : World} (h : Below B a w) (h' : Below w.heap.size w w') (hB : B ≤ w.heap.size) : Below B a w' := h.trans (h'.mono hB)
theorem bvs_take (l : List UInt8) (k : Nat) : (bvs l).take k = bvs (l.take k) := by simp [bvs]
theorem bvs_drop (l : List UInt8) (k : Nat) : (bvs l).drop k = bvs (l.drop k) := by simp [bvs]
theorem Rd.takeB {w : World} {A : Option Addr} {n c k : Nat} {xs : List UInt8} (h : Rd w A n c (bvs xs)) (hk : k ≤ n) : Rd w A k c (bvs (xs.take k)) := by rw [← bvs_take]; exact h.take hk
theorem Rd.dropB {w : World} {A : Option Addr} {n c k : Nat} {xs : List UInt8} (h : Rd w A n c (bvs xs)) (hk : k ≤ n) : Rd w (cutA A c k) (n - k) (c - k) (bvs (xs.drop k)) := by rw [← bvs_drop]; exact h.drop hk
theorem sl_eq {A : Option Addr} {n m c : Nat} (h : n = m) : Value.slice A n c = Value.slice A m c := by rw [h]
theorem Slv.below {w w' : World} {T : TypeId} {base : Nat} {v : Value} {bs : List UInt8} (h : Slv T w base v bs) (hb : Below w.heap.size w w') : Slv T w' base v bs := by
  obtain ⟨A, c, rfl, ha⟩ := h
  exact ⟨A, c, rfl, ha.below hb⟩
theorem Slv.kept {w w' : World} {T : TypeId} {base : Nat} {v : Value} {bs : List UInt8} (h : Slv T w base v bs) {base' : Nat} {e' : TypeId} {A' : Option Addr} {n' c' : Nat} {xs' : List Value} (hk : Kept w base' e' A' n' c' xs' w') (hne : T ≠ e') : Slv T w' base v bs := by
  obtain ⟨A, c, rfl, ha⟩ := h
  exact ⟨A, c, rfl, ha.kept hk hne⟩
theorem Slv.mk {w : World} {T : TypeId} {base : Nat} {A : Option Addr} {q c : Nat} {bs : List UInt8} (hq : bs.length = q) (ha : Ap w base T A q c (bvs bs)) : Slv T w base (.slice A q c) bs := by
  subst hq
  exact ⟨A, c, rfl, ha⟩
/-- A call that makes memory (w1), one block more, an append: what was there of pieces, and one more. -/
theorem pieces_step {T T' : TypeId} {base base' : Nat} {wr w1 w2 : World} {o : Obj} {A' : Option Addr} {n' c' : Nat} {xs' : List Value} {vs : List Value} {l : List (List UInt8)} {v : Value} {b : List UInt8}
    (h : All2 (Slv T wr base) vs l) (hb1 : Below wr.heap.size wr w1) (hv : Slv T w1 base v b) (hk : Kept (w1.alloc o) base' T' A' n' c' xs' w2) (hne : T ≠ T') : All2 (Slv T w2 base) (vs ++ [v]) (l ++ [b]) :=
  (h.imp fun _ _ hx => ((hx.below hb1).below ((Below.refl _ _).alloc (Nat.le_refl _) o)).kept hk hne).snoc ((hv.below ((Below.refl _ _).alloc (Nat.le_refl _) o)).kept hk hne)
theorem Rd.sliceB {w : World} {A : Option Addr} {n c k m : Nat} {xs : List UInt8} (h : Rd w A n c (bvs xs)) (hk : k ≤ m) (hm : m ≤ n) : Rd w (cutA A c k) (m - k) (c - k) (bvs ((xs.take m).drop k)) := (h.takeB hm).dropB hk
theorem Rd.midB {w : World} {A : Option Addr} {n c p q : Nat} {xs : List UInt8} (h : Rd w A n c (bvs xs)) (hq : p + q ≤ n) : Rd w (cutA A c p) q (c - p) (bvs ((xs.drop p).take q)) := by
  have h1 := h.sliceB (k := p) (m := p + q) (by omega) hq
  rw [List.drop_take, Nat.add_sub_cancel_left] at h1
  exact h1
theorem Rd.midM {w : World} {A : Option Addr} {n c p q q' : Nat} {xs : List UInt8} (h : Rd w A n c (bvs xs)) (hq : p + q ≤ n) (hp : p < n) (hq' : q' = q) : Rd w (A.map (fun x => x.add p)) q' (c - p) (bvs ((xs.drop p).take q)) := by
  have h1 := h.midB hq
  have hc := h.cap
  subst hq'
  unfold cutA at h1
  rwa [if_neg (by omega)] at h1

/-! ## append as a step of a region that draws its order -/
theorem step_append_ap {P : Program} {ops : Array Oper} {o : Oper} {a : Act} {w : World} {K : Act → World → Prop} {Q : Exit → Act → World → Prop} {E : Prop}
    (hg : o.guard = none) (s x : Operand) (t : TypeId) (hop : o.op = Op.call { callee := Callee.builtin Builtin.append, args := #[s, x], argTypes := #[t, t] })
    (base : Nat) (e : TypeId) (i : TypeInfo) (z : Value) (bytes : Nat) (h1 : P.underlying t = some (.slice e)) (h2 : P.info? e = some i) (h3 : i.zero = some z) (h4 : i.size = 1) (h5 : i.bytes = bytes) (h6 : z.cells.size = 1)
    (A : Option Addr) (n c : Nat) (xs : List Value) (hs : a.eval s = .slice A n c) (hap : Ap w base e A n c xs)
    (A' : Option Addr) (m c' : Nat) (news : List Value) (hx : a.eval x = .slice A' m c') (hr : Rd w A' m c' news) (h1c : ∀ u ∈ news, u.oneCell' = true)
    (hbytes : (n + m) * bytes ≤ 140737488355328) (hmax : n + m ≤ maxLen) (hbase : base ≤ w.heap.size)
    (hK : ∀ A2 c2 w', Ap w' base e A2 (n + m) c2 (xs ++ news) → Kept w base e A n c xs w' → Below base w w' → (0 < m → A2 ≠ none) → K (a.put o.dst (.slice A2 (n + m) c2)) w') :
    if Region.wanted o (yielded ops a.tmps) = true then Oper.wp P o a w K Q else E := by
  have hw : Region.wanted o (yielded ops a.tmps) = true := by simp [Region.wanted, hg]
  rw [if_pos hw]
  obtain ⟨A2, c2, w', hrun, r1, r2, r3, r4⟩ := run_append_ap (P := P) w base t o.type e i z bytes h1 h2 h3 h4 h5 h6 A n c xs hap A' m c' news hr h1c hbytes hmax hbase
  unfold Oper.wp
  simp [execOp, hop, resolve, invoke, builtin, hs, hx, hrun, Result.andThen]
  exact hK A2 c2 w' r1 r2 r3 r4
theorem step_append_fits {P : Program} {ops : Array Oper} {o : Oper} {a : Act} {w : World} {K : Act → World → Prop} {Q : Exit → Act → World → Prop} {E : Prop}
    (hg : o.guard = none) (s x : Operand) (t : TypeId) (hop : o.op = Op.call { callee := Callee.builtin Builtin.append, args := #[s, x], argTypes := #[t, t] })
    (base : Nat) (e : TypeId) (i : TypeInfo) (h1 : P.underlying t = some (.slice e)) (h2 : P.info? e = some i) (h4 : i.size = 1)
    (g k cap : Nat) (xs : List Value) (hs : a.eval s = .slice (some ⟨g, 0, none⟩) k cap) (hown : w.ownsRow base e 1 (.slice (some ⟨g, 0, none⟩) k cap) k xs)
    (b off m c : Nat) (news : List Value) (hx : a.eval x = .slice (some ⟨b, off, none⟩) m c) (hr : Rd w (some ⟨b, off, none⟩) m c news) (h1c : ∀ u ∈ news, u.oneCell' = true) (b1 : k + m ≤ cap) (hbase : base ≤ w.heap.size)
    (hK : ∀ w', w'.ownsRow base e 1 (.slice (some ⟨g, 0, none⟩) (k + m) cap) (k + m) (xs ++ news) → Below base w w' → K (a.put o.dst (.slice (some ⟨g, 0, none⟩) (k + m) cap)) w') :
    if Region.wanted o (yielded ops a.tmps) = true then Oper.wp P o a w K Q else E := by
  have hw : Region.wanted o (yielded ops a.tmps) = true := by simp [Region.wanted, hg]
  rw [if_pos hw]
  have hcells : ∀ j u, news[j]? = some u → w.cell? ((⟨b, off, none⟩ : Addr).add j) = some u := by
    intro j u hu
    have hj := (List.getElem?_eq_some_iff.1 hu).1
    rw [hr.len] at hj
    obtain ⟨b', off', e1, _, hc'⟩ := hr.at_ (by omega)
    injection e1 with e1
    rw [e1, add_plain]
    exact hc' j u hu
  obtain ⟨w', hrun, r1, r2⟩ := run_append_fits (P := P) w base t o.type e i 1 h1 h2 h4 g k cap xs hown ⟨b, off, none⟩ m c news (by rw [hr.len]; omega) hcells h1c b1
  unfold Oper.wp
  simp [execOp, hop, resolve, invoke, builtin, hs, hx, hrun, Result.andThen]
  exact hK w' r1 ((Below.refl base w).grown r2 hbase (fun j hj => by injection hj with hj; subst hj; exact (hown.lt g rfl).1))

/-! ## Hexadecimal -/
/-- The digit of a number below 16. -/
def hexd (x : Nat) : UInt8 := if x < 10 then UInt8.ofNat (48 + x) else UInt8.ofNat (87 + x)
def hexS (bs : List UInt8) : List UInt8 := bs.flatMap fun b => [hexd (b.toNat / 16), hexd (b.toNat % 16)]
theorem hexS_snoc (bs : List UInt8) (b : UInt8) : hexS (bs ++ [b]) = hexS bs ++ [hexd (b.toNat / 16), hexd (b.toNat % 16)] := by simp [hexS]
theorem length_hexS (bs : List UInt8) : (hexS bs).length = 2 * bs.length := by
  induction bs with
  | nil => rfl
  | cons b bs ih =>
    have e : hexS (b :: bs) = [hexd (b.toNat / 16), hexd (b.toNat % 16)] ++ hexS bs := by simp [hexS]
    rw [e, List.length_append, ih]
    simp
    omega
/-- The text of the sixteen digits. -/
def hexT : ByteArray := { data := #[48, 49, 50, 51, 52, 53, 54, 55, 56, 57, 97, 98, 99, 100, 101, 102] }
theorem hexT_at (j : Nat) (hj : j < 16) : hexT[j]? = some (hexd j) := by
  match j, hj with
  | 0, _ | 1, _ | 2, _ | 3, _ | 4, _ | 5, _ | 6, _ | 7, _ | 8, _ | 9, _ | 10, _ | 11, _ | 12, _ | 13, _ | 14, _ | 15, _ => rfl
  | n + 16, h => omega
theorem run_hexT {P : Program} (w : World) (t : TypeId) (ht : P.underlying t = some .string) (k : IntKind) (j : Nat) (hj : j < 16) :
    (Instr.index t (.string hexT) (.int k (j : Int))).run P w = .ok (.int .u8 ((hexd j).toNat : Int)) w := by
  simp [Instr.index, asIntOf, run_underlying ht, hexT_at j hj]
theorem hexd_lt (x : Nat) (hx : x < 16) : (hexd x).toNat < 128 := by
  unfold hexd
  split <;> rw [UInt8.toNat_ofNat'] <;> omega
theorem enc_ascii (d : UInt8) (h : d.toNat < 128) : Utf8.encode (d.toNat : Int) = strB [d] := by
  have hv : Utf8.valid (d.toNat : Int) = true := by
    simp [Utf8.valid]
    omega
  have hc : (if Utf8.valid (d.toNat : Int) = true then (d.toNat : Int).toNat else Utf8.runeError) = d.toNat := by rw [if_pos hv]; rfl
  simp only [Utf8.encode, hc]
  rw [if_pos (by omega)]
  simp [strB]
theorem enc_hexd (x : Nat) (hx : x < 16) : Utf8.encode ((hexd x).toNat : Int) = strB [hexd x] := enc_ascii _ (hexd_lt x hx)
theorem strB_append (a b : List UInt8) : strB a ++ strB b = strB (a ++ b) := ByteArray.mk_append_mk a b
/-- The value of a hexadecimal digit, -1 for another byte. -/
def digS (x : Nat) : Int := if 48 ≤ x ∧ x ≤ 57 then (x : Int) - 48 else if 97 ≤ x ∧ x ≤ 102 then (x : Int) - 97 + 10 else if 65 ≤ x ∧ x ≤ 70 then (x : Int) - 65 + 10 else -1
theorem digS_range (x : Nat) : -1 ≤ digS x ∧ digS x ≤ 15 := by
  unfold digS
  repeat' split
  all_goals omega
theorem digS_hexd (x : Nat) (hx : x < 16) : digS (hexd x).toNat = x := by
  unfold hexd
  split <;> rw [UInt8.toNat_ofNat'] <;> unfold digS
  · rw [if_pos (by omega)]; omega
  · rw [if_neg (by omega), if_pos (by omega)]; omega
/-- The byte at place j of a text (0 behind its end). -/
def atS (s : List UInt8) (j : Nat) : Nat := (s[j]?.getD 0).toNat
/-- The pair of digits at 2 k. -/
def pairOk (s : List UInt8) (k : Nat) : Bool := decide (0 ≤ digS (atS s (2 * k)) ∧ 0 ≤ digS (atS s (2 * k + 1)))
def pairV (s : List UInt8) (k : Nat) : UInt8 := UInt8.ofNat (16 * (digS (atS s (2 * k))).toNat + (digS (atS s (2 * k + 1))).toNat)
def pairsS (s : List UInt8) (k : Nat) : List UInt8 := (List.range k).map (pairV s)
def unhexOk (s : List UInt8) : Bool := decide (s.length % 2 = 0) && (List.range (s.length / 2)).all (pairOk s)
def unhexL (s : List UInt8) : List UInt8 := if unhexOk s then pairsS s (s.length / 2) else []
def unhexE (s : List UInt8) : Int := if unhexOk s then 0 else 1
theorem pairsS_snoc (s : List UInt8) (k : Nat) : pairsS s (k + 1) = pairsS s k ++ [pairV s k] := by simp [pairsS, List.range_succ]
theorem length_pairsS (s : List UInt8) (k : Nat) : (pairsS s k).length = k := by simp [pairsS]
theorem unhex_bad {s : List UInt8} {k : Nat} (hk : k < s.length / 2) (h : pairOk s k = false) : unhexL s = [] ∧ unhexE s = 1 := by
  have : unhexOk s = false := by
    cases hu : unhexOk s with
    | false => rfl
    | true =>
      simp only [unhexOk, Bool.and_eq_true, List.all_eq_true, List.mem_range] at hu
      have := hu.2 k hk
      rw [h] at this
      cases this
  simp [unhexL, unhexE, this]
theorem unhex_odd {s : List UInt8} (h : s.length % 2 ≠ 0) : unhexL s = [] ∧ unhexE s = 1 := by
  have : unhexOk s = false := by simp [unhexOk, h]
  simp [unhexL, unhexE, this]
theorem unhex_good {s : List UInt8} (h : s.length % 2 = 0) (hk : ∀ k, k < s.length / 2 → pairOk s k = true) : unhexL s = pairsS s (s.length / 2) ∧ unhexE s = 0 := by
  have : unhexOk s = true := by
    simp only [unhexOk, Bool.and_eq_true, List.all_eq_true, List.mem_range]
    exact ⟨by simp [h], hk⟩
  simp [unhexL, unhexE, this]
theorem or_nibbles (x y : Nat) (hx : x < 16) (hy : y < 16) : bits .or .i64 ((x : Int) * 16) (y : Int) = ((16 * x + y : Nat) : Int) := by
  have e : ((x : Int) * 16) = ((x * 16 : Nat) : Int) := by omega
  rw [e, or_i64 _ _ (by omega) (by omega)]
  have h := Nat.two_pow_add_eq_or_of_lt (i := 4) (b := y) (by omega) x
  have e2 : x * 16 = 2 ^ 4 * x := by omega
  rw [e2, ← h]
theorem quiet_l {P : Program} {f : FuncId} {args : Array Value} {w : World} {n : Nat} {v : Value}
    (h : Calls P f args (w.drewN n) fun e w' => e = .returned v ∧ w.drewN n = w') : Calls P f args (w.drewN n) fun e w'' => e = .returned v ∧ ∃ m, w'' = w.drewN m :=
  h.mono fun _ _ ⟨he, hm⟩ => ⟨he, n, hm.symm⟩
theorem run_index_strB {P : Program} (w : World) (t : TypeId) (ht : P.underlying t = some .string) (k : IntKind) (l : List UInt8) (j : Nat) (hj : j < l.length) :
    (Instr.index t (.string (strB l)) (.int k (j : Int))).run P w = .ok (.int .u8 (atS l j : Int)) w := by
  have h : (strB l)[j]? = some l[j] := by
    show (if h : j < (strB l).size then some ((strB l)[j]) else none) = _
    rw [dif_pos (by rw [strB_size]; exact hj)]
    rfl
  simp [Instr.index, asIntOf, run_underlying ht, h, atS, List.getElem?_eq_getElem hj]
theorem atS_lt (l : List UInt8) (j : Nat) : atS l j < 256 := (l[j]?.getD 0).toNat_lt
theorem strB_eta (s : ByteArray) : strB s.data.toList = s := rfl
theorem own_u8 (x : Nat) (hx : x < 256) : Value.int .u8 (x : Int) = bv (UInt8.ofNat x) := by
  rw [bv_ofNat, Nat.mod_eq_of_lt hx]
theorem RetQ.quiet {P : Program} {f : FuncId} {args : Array Value} {w : World} {n : Nat} {v : Value} (h : Calls P f args (w.drewN n) (RetQ v (w.drewN n))) :
    Calls P f args (w.drewN n) fun e w'' => e = .returned v ∧ ∃ m, w'' = w.drewN m :=
  h.mono fun _ _ ⟨he, m, hm⟩ => ⟨he, n + m, by rw [hm, World.drewN_drewN]⟩

/-! ## append, the new length under a name of its own -/
theorem wpList_append_apN {P : Program} (w : World) {ops : Array Oper} {rest : List Oper} {o : Oper} {a : Act} {Q : Exit → Act → World → Prop}
    (hg : o.guard = none) (s x : Operand) (t : TypeId) (hop : o.op = Op.call { callee := Callee.builtin Builtin.append, args := #[s, x], argTypes := #[t, t] })
    (base : Nat) (e : TypeId) (i : TypeInfo) (z : Value) (bytes : Nat) (h1 : P.underlying t = some (.slice e)) (h2 : P.info? e = some i) (h3 : i.zero = some z) (h4 : i.size = 1) (h5 : i.bytes = bytes) (h6 : z.cells.size = 1)
    (A : Option Addr) (n c : Nat) (xs : List Value) (hs : a.eval s = .slice A n c) (hap : Ap w base e A n c xs)
    (A' : Option Addr) (m c' : Nat) (news : List Value) (hx : a.eval x = .slice A' m c') (hr : Rd w A' m c' news) (h1c : ∀ u ∈ news, u.oneCell' = true)
    (hbytes : (n + m) * bytes ≤ 140737488355328) (hmax : n + m ≤ maxLen) (hbase : base ≤ w.heap.size)
    (hK : ∀ N A2 c2 w', RowKit.Hid (N = n + m) → N ≤ n + m → Ap w' base e A2 N c2 (xs ++ news) → Kept w base e A n c xs w' → Below base w w' → wpList P ops Q rest (a.put o.dst (.slice A2 N c2)) w') :
    wpList P ops Q (o :: rest) a w :=
  wpList_append_ap w hg s x t hop base e i z bytes h1 h2 h3 h4 h5 h6 A n c xs hs hap A' m c' news hx hr h1c hbytes hmax hbase
    fun A2 c2 w' r1 r2 r3 _ => hK (n + m) A2 c2 w' rfl (Nat.le_refl _) r1 r2 r3
theorem step_append_apN {P : Program} {ops : Array Oper} {o : Oper} {a : Act} {w : World} {K : Act → World → Prop} {Q : Exit → Act → World → Prop} {E : Prop}
    (hg : o.guard = none) (s x : Operand) (t : TypeId) (hop : o.op = Op.call { callee := Callee.builtin Builtin.append, args := #[s, x], argTypes := #[t, t] })
    (base : Nat) (e : TypeId) (i : TypeInfo) (z : Value) (bytes : Nat) (h1 : P.underlying t = some (.slice e)) (h2 : P.info? e = some i) (h3 : i.zero = some z) (h4 : i.size = 1) (h5 : i.bytes = bytes) (h6 : z.cells.size = 1)
    (A : Option Addr) (n c : Nat) (xs : List Value) (hs : a.eval s = .slice A n c) (hap : Ap w base e A n c xs)
    (A' : Option Addr) (m c' : Nat) (news : List Value) (hx : a.eval x = .slice A' m c') (hr : Rd w A' m c' news) (h1c : ∀ u ∈ news, u.oneCell' = true)
    (hbytes : (n + m) * bytes ≤ 140737488355328) (hmax : n + m ≤ maxLen) (hbase : base ≤ w.heap.size)
    (hK : ∀ N A2 c2 w', RowKit.Hid (N = n + m) → N ≤ n + m → Ap w' base e A2 N c2 (xs ++ news) → Kept w base e A n c xs w' → Below base w w' → K (a.put o.dst (.slice A2 N c2)) w') :
    if Region.wanted o (yielded ops a.tmps) = true then Oper.wp P o a w K Q else E :=
  step_append_ap hg s x t hop base e i z bytes h1 h2 h3 h4 h5 h6 A n c xs hs hap A' m c' news hx hr h1c hbytes hmax hbase
    fun A2 c2 w' r1 r2 r3 _ => hK (n + m) A2 c2 w' rfl (Nat.le_refl _) r1 r2 r3
theorem RetSE.apN {T : TypeId} {A : Option Addr} {n N c : Nat} {xs ys : List Value} {err : Int} {w w' : World} (hN : N = n) (hx : xs = ys) (h : Ap w' w.heap.size T A N c xs) (hb : Below w.heap.size w w') :
    RetSE T n ys err w (.returned (.tuple #[.slice A N c, .int .i64 err])) w' := by
  subst hN hx
  exact ⟨_, _, rfl, h, hb⟩
end Go.TravelBase
