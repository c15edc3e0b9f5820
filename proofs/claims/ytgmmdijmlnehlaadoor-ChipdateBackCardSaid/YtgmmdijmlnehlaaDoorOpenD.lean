import Derived.Test.YtgmmdijmlnehlaaDoorOpen
import Derived.Deep.Fields
import Derived.Test.YtgmmdijmlnehlaaDoorAbsAB
import Derived.Test.YtgmmdijmlnehlaaDoorDiceA
namespace Go.Proofs.YtgmmdijmlnehlaaDoor
open Go.ChangeShapes Go.WideShapes Go.ChangeAt Go.RowKit Go.TravelBase Go.Deep
set_option linter.unusedVariables false
set_option linter.unusedSimpArgs false

section
variable {H : Type} {enc : TypeId × Value → H} {P : Program} {W : World}
/-- A struct of one-cell fields that came in: its cells, and each field's own reading. -/
theorem opn_struct {r : Reach} {b0 : Nat} {t : TypeId} {fs : Array Field} {v : Value} {d : DataW H} {p : List MemPlace} (hs : P.underlying t = some (.struct fs)) (hone : oneCellFields P fs = true) (hC : P.cellsOf t = fs.size)
    (hv : Value.okWide P W r b0 t v) (h : DataW.Trod enc P W 0 (fun _ => true) true t v d p) :
    ∃ cs : Array Value, v = .agg cs ∧ cs.size = fs.size ∧ ∀ (j : Nat) (f : Field) (u : Value), fs[j]? = some f → cs[j]? = some u → ∃ (n : Nat) (y : DataW H × List MemPlace), DataW.trod enc P W 0 (fun _ => true) true n f.type [u] = some y := by
  obtain ⟨cs, rfl, hsz⟩ := okWide_struct hs hv
  refine ⟨cs, rfl, hsz.trans hC, fun j f u hf hu => ?_⟩
  obtain ⟨fuel, ht⟩ := h
  obtain ⟨xs, n, _, _, _, hlen, hg⟩ := DataW.trod_struct hs ht
  obtain ⟨ho, hk⟩ := hone_of hone j f hf
  have h1 := hg j f hf
  rw [ho, hk] at h1
  have hj : j < cs.size := (Array.getElem?_eq_some_iff.1 hu).1
  have e : (cs.toList.drop j).take 1 = [u] := by
    have h2 : cs.toList[j]? = some u := by simpa using hu
    obtain ⟨h3, h4⟩ := List.getElem?_eq_some_iff.1 h2
    rw [List.drop_eq_getElem_cons h3, h4]
    rfl
  have e2 : (Value.cells (.agg cs)).toList = cs.toList := rfl
  rw [e2, e] at h1
  have hx : j < xs.length := by rw [hlen]; exact (Array.getElem?_eq_some_iff.1 hf).1
  exact ⟨n, xs[j], h1.trans (List.getElem?_eq_getElem hx)⟩
theorem opn_int1 {t : TypeId} {k : IntKind} {u : Value} {n : Nat} {y : DataW H × List MemPlace} (ht : P.underlying t = some (.int k)) (h : DataW.trod enc P W 0 (fun _ => true) true n t [u] = some y) : ∃ a, u = .int k a ∧ (Lit.int k a).wf = true := by
  obtain ⟨a, h1, _, h2⟩ := DataW.trod_int ht h
  injection h1 with h1
  exact ⟨a, h1, h2⟩
theorem opn_bool1 {t : TypeId} {u : Value} {n : Nat} {y : DataW H × List MemPlace} (ht : P.underlying t = some .bool) (h : DataW.trod enc P W 0 (fun _ => true) true n t [u] = some y) : ∃ a, u = .bool a := by
  obtain ⟨a, h1, _⟩ := DataW.trod_bool ht h
  injection h1 with h1
  exact ⟨a, h1⟩
theorem opn_bytes1 {t e : TypeId} {u : Value} {n : Nat} {y : DataW H × List MemPlace} (ht : P.underlying t = some (.slice e)) (he : P.underlying e = some (.int .u8)) (hc : P.cellsOf e = 1)
    (h : DataW.trod enc P W 0 (fun _ => true) true n t [u] = some y) : ∃ A m c bs, u = .slice A m c ∧ Rd W A m c (bvs bs) := by
  rcases open_slice ht h with ⟨hcs, _⟩ | ⟨a, l, cap, m, n', D, Pl, hcs, _, _, _, _, _, _⟩
  · injection hcs with hcs
    subst hcs
    exact ⟨none, 0, 0, [], rfl, Rd.nil_ W⟩
  · injection hcs with hcs
    subst hcs
    obtain ⟨bs, hr, _⟩ := opn_bytes (enc := enc) (A := some a) (n := l) (c := cap) (d := y.1) (p := y.2) ht he hc ⟨n, h⟩
    exact ⟨_, _, _, bs, rfl, hr⟩
theorem array2 {α : Type} {cs : Array α} {n : Nat} (h : cs.size = n) (hn : n = 2 := by rfl) : ∃ a b, cs = #[a, b] := by
  obtain ⟨l⟩ := cs
  subst hn
  match l, h with
  | [a, b], _ => exact ⟨a, b, rfl⟩
theorem array5 {α : Type} {cs : Array α} {n : Nat} (h : cs.size = n) (hn : n = 5 := by rfl) : ∃ a b c d e, cs = #[a, b, c, d, e] := by
  obtain ⟨l⟩ := cs
  subst hn
  match l, h with
  | [a, b, c, d, e], _ => exact ⟨a, b, c, d, e, rfl⟩
theorem array6 {α : Type} {cs : Array α} {n : Nat} (h : cs.size = n) (hn : n = 6 := by rfl) : ∃ a b c d e f, cs = #[a, b, c, d, e, f] := by
  obtain ⟨l⟩ := cs
  subst hn
  match l, h with
  | [a, b, c, d, e, f], _ => exact ⟨a, b, c, d, e, f, rfl⟩
end
end Go.Proofs.YtgmmdijmlnehlaaDoor

namespace Go.TravelAbs
open Go.RowKit Go.TravelBase
set_option linter.unusedVariables false
/-- A law: it returns what it says, and changes nothing that was there. -/
theorem FnS.law {P : Program} {f : FuncId} {args : List AV} {v : Value} (h : FnS P f args [] (.lit v) []) (W : World) (vs : Array Value) (hl : vs.size = args.length) (hv : ∀ m, ∀ (j : Nat) (x : AV) (u : Value), args[j]? = some x → vs[j]? = some u → VR W (fun b _ => b < W.heap.size) m x u) (hG : GLw W (fun b _ => b < W.heap.size) := by exact fun _ => VR.any _) :
    Calls P f vs W fun e W' => e = .returned v ∧ Below W.heap.size W W' := by
  refine (h W (fun b _ => b < W.heap.size) (fun _ => ⟨0, 0, 0⟩) vs (fun _ _ h => h) hG hl (hv _) (fun p c hp => by simp at hp) (fun p q hp => by simp at hp)).mono ?_
  rintro e W' ⟨u, S', m', rfl, hM, hu⟩
  have hu : u = v := hu.lit_inv
  subst hu
  exact ⟨rfl, hM.frm.os, hM.frm.tape, hM.frm.output, hM.frm.size, fun k hk => hM.frm.block k hk (fun ⟨p, hp, _⟩ => absurd hp (Nat.not_lt_zero p))⟩
end Go.TravelAbs
namespace Go.Proofs.YtgmmdijmlnehlaaDoor
open Go.ChangeShapes Go.WideShapes Go.ChangeAt Go.RowKit Go.TravelBase Go.Deep
section
variable {H : Type} {enc : TypeId × Value → H} {P : Program} {W : World}
/-- A struct of one field, an array of two byte slices. -/
theorem opn_mem {r : Reach} {b0 : Nat} {t a e b : TypeId} {F : Field} {v : Value} {d : DataW H} {p : List MemPlace} (hs : P.underlying t = some (.struct #[F])) (h0 : F.offset = 0) (hFt : F.type = a) (ha : P.underlying a = some (.array 2 e)) (he : P.underlying e = some (.slice b)) (hb : P.underlying b = some (.int .u8))
    (ct : P.cellsOf t = 2) (ca : P.cellsOf a = 2) (ce : P.cellsOf e = 1) (cb : P.cellsOf b = 1) (hv : Value.okWide P W r b0 t v) (h : DataW.Trod enc P W 0 (fun _ => true) true t v d p) :
    ∃ A1 n1 c1 bs1 A2 n2 c2 bs2, v = .agg #[.slice A1 n1 c1, .slice A2 n2 c2] ∧ Rd W A1 n1 c1 (bvs bs1) ∧ Rd W A2 n2 c2 (bvs bs2) := by
  obtain ⟨cs, rfl, hsz⟩ := okWide_struct hs hv
  obtain ⟨u1, u2, rfl⟩ := array2 (hsz.trans ct)
  obtain ⟨fuel, ht⟩ := h
  obtain ⟨xs, n, _, _, _, hlen, hg⟩ := DataW.trod_struct hs ht
  have h1 := hg 0 F rfl
  rw [h0, hFt, ca] at h1
  have e2 : ((Value.cells (.agg #[u1, u2])).toList.drop 0).take 2 = [u1, u2] := rfl
  rw [e2] at h1
  have hx : 0 < xs.length := by rw [hlen]; exact Nat.one_pos
  rw [List.getElem?_eq_getElem hx] at h1
  obtain ⟨ys, m, _, _, _, hl2, hg2⟩ := DataW.trod_array ha h1
  have g0 := hg2 0 (by omega)
  have g1 := hg2 1 (by omega)
  rw [ce] at g0 g1
  rw [List.getElem?_eq_getElem (show 0 < ys.length by omega)] at g0
  rw [List.getElem?_eq_getElem (show 1 < ys.length by omega)] at g1
  obtain ⟨A1, n1, c1, bs1, rfl, w1⟩ := opn_bytes1 he hb cb g0
  obtain ⟨A2, n2, c2, bs2, rfl, w2⟩ := opn_bytes1 he hb cb g1
  exact ⟨A1, n1, c1, bs1, A2, n2, c2, bs2, rfl, w1, w2⟩
end
end Go.Proofs.YtgmmdijmlnehlaaDoor

namespace Go.Proofs.YtgmmdijmlnehlaaDoor
open Go.RowKit Go.TravelBase Go.TravelAbs Go.ChangeShapes Go.WideShapes Go.ChangeAt
set_option linter.unusedVariables false
/-- A slice of ints, as the dice take it. -/
theorem VR_ints {w : World} {S : CSet} {m : RMap} {A : Option Addr} {n c : Nat} {zs : List Int} (h : Rd w A n c (zs.map (Value.int .i64))) (hS : ∀ b o, b < w.heap.size → S b o) : VR w S m (.li 1 (zs.map iA)) (.slice A n c) := by
  have hlen : zs.length = n := by have := h.len; simpa using this
  refine .li (us := fun j => .int .i64 (zs.getD j 0)) (by simp [hlen]) h.cap h.max h.2.2.2.1 (by decide) (fun x hx => ?_) ?_ (fun i j x y hx hy => ?_)
  · obtain ⟨z, _, rfl⟩ := List.mem_map.1 hx
    rfl
  · rcases Nat.eq_zero_or_pos n with h0 | hpos
    · exact .inl (by rw [h0])
    · obtain ⟨b, off, e, hb, hc⟩ := h.at_ hpos
      refine .inr ⟨b, off, e, fun i hi => ⟨hS _ _ hb, hc i _ ?_⟩⟩
      have hi : i < zs.length := by omega
      simp [List.getD, List.getElem?_eq_getElem hi]
  · have hi : i < zs.length := by have := (List.getElem?_eq_some_iff.1 hx).1; simpa using this
    rw [List.getElem?_map, List.getElem?_eq_getElem hi] at hx
    simp only [Option.map_some, Option.some.injEq] at hx
    subst hx
    match j, hy with
    | 0, hy =>
      simp only [iA, AV.cl, List.getElem?_cons_zero, Option.some.injEq] at hy
      subst hy
      have : zs.getD (i * 1 + 0) 0 = zs[i] := by simp [List.getD, List.getElem?_eq_getElem hi]
      rw [this]
      exact .lit _
    | j + 1, hy => simp [iA, AV.cl] at hy
theorem wf_i64 {zs : List Int} (h : ∀ z ∈ zs, (Lit.int .i64 z).wf = true) : ∀ y ∈ zs, -9223372036854775808 ≤ y ∧ y ≤ 9223372036854775807 := fun y hy => bounds_i64 (h y hy)
theorem VR_two {w : World} {S : CSet} {m : RMap} {A1 A2 : Option Addr} {n1 c1 n2 c2 : Nat} {b1 b2 : List UInt8} (h1 : Rd w A1 n1 c1 (bvs b1)) (h2 : Rd w A2 n2 c2 (bvs b2)) (hS : ∀ b o, b < w.heap.size → S b o) : VR w S m (.agg [.by_ b1, .by_ b2]) (.agg #[.slice A1 n1 c1, .slice A2 n2 c2]) := by
  refine .agg rfl fun j x u hx hu => ?_
  match j, hx, hu with
  | 0, hx, hu => simp at hx hu; subst hx hu; exact VR_of_Rd h1 hS
  | 1, hx, hu => simp at hx hu; subst hx hu; exact VR_of_Rd h2 hS
  | j + 2, hx, hu => simp at hx
theorem okWide_arr {P : Program} {w : World} {r : Reach} {base : Nat} {t e : TypeId} {n : Nat} {v : Value} (ht : P.underlying t = some (.array n e)) (h : Value.okWide P w r base t v) : ∃ cs, v = .agg cs ∧ cs.size = P.cellsOf t := by
  simp only [Value.okWide, ht] at h
  obtain ⟨cs, h1, h2, _⟩ := h
  exact ⟨cs, h1, h2⟩
open Go.Deep in
/-- An array of two byte slices. -/
theorem opn_arr2 {H : Type} {enc : TypeId × Value → H} {P : Program} {W : World} {r : Reach} {b0 : Nat} {a e b : TypeId} {v : Value} {d : DataW H} {p : List MemPlace} (ha : P.underlying a = some (.array 2 e)) (he : P.underlying e = some (.slice b)) (hb : P.underlying b = some (.int .u8))
    (ca : P.cellsOf a = 2) (ce : P.cellsOf e = 1) (cb : P.cellsOf b = 1) (hv : Value.okWide P W r b0 a v) (h : DataW.Trod enc P W 0 (fun _ => true) true a v d p) :
    ∃ A1 n1 c1 bs1 A2 n2 c2 bs2, v = .agg #[.slice A1 n1 c1, .slice A2 n2 c2] ∧ Rd W A1 n1 c1 (bvs bs1) ∧ Rd W A2 n2 c2 (bvs bs2) := by
  obtain ⟨cs, rfl, hsz⟩ := okWide_arr ha hv
  obtain ⟨u1, u2, rfl⟩ := array2 (hsz.trans ca)
  obtain ⟨fuel, ht⟩ := h
  obtain ⟨ys, m, _, _, _, hl2, hg2⟩ := DataW.trod_array ha ht
  have e2 : ((Value.cells (.agg #[u1, u2])).toList) = [u1, u2] := rfl
  rw [e2] at hg2
  have g0 := hg2 0 (by omega)
  have g1 := hg2 1 (by omega)
  rw [ce] at g0 g1
  rw [List.getElem?_eq_getElem (show 0 < ys.length by omega)] at g0
  rw [List.getElem?_eq_getElem (show 1 < ys.length by omega)] at g1
  obtain ⟨A1, n1, c1, bs1, rfl, w1⟩ := opn_bytes1 he hb cb g0
  obtain ⟨A2, n2, c2, bs2, rfl, w2⟩ := opn_bytes1 he hb cb g1
  exact ⟨A1, n1, c1, bs1, A2, n2, c2, bs2, rfl, w1, w2⟩
end Go.Proofs.YtgmmdijmlnehlaaDoor

namespace Go.Proofs.YtgmmdijmlnehlaaDoor
open Go.ChangeShapes Go.WideShapes Go.ChangeAt Go.RowKit Go.TravelBase Go.Deep Go.TravelAbs
set_option linter.unusedVariables false
set_option linter.unusedSimpArgs false
/-! ### What comes in, by its type: as a tree -/
section
variable {H : Type} {enc : TypeId × Value → H} {P : Program} {W : World}
/-- Cells read as the cells of x. -/
def CellsR (W : World) (x : AV) (cs : List Value) : Prop := x.cl.length = cs.length ∧ ∀ (j : Nat) (z : AV) (u : Value), x.cl[j]? = some z → cs[j]? = some u → ∀ m, VR W (fun b _ => b < W.heap.size) m z u
def OpnAt (enc : TypeId × Value → H) (P : Program) (W : World) (fuel : Nat) (t : TypeId) (Φ : AV → Prop) : Prop :=
  ∀ (cs : List Value) (y : DataW H × List MemPlace), DataW.trod enc P W 0 (fun _ => true) true fuel t cs = some y → ∃ x : AV, Φ x ∧ CellsR W x cs
theorem CellsR.one {x : AV} {v : Value} (hx : x.cl = [x]) (h : ∀ m, VR W (fun b _ => b < W.heap.size) m x v) : CellsR W x [v] := by
  refine ⟨by rw [hx]; rfl, fun j z u hz hu m => ?_⟩
  rw [hx] at hz
  match j, hz, hu with
  | 0, hz, hu => simp at hz hu; subst hz hu; exact h m
  | j + 1, hz, hu => simp at hz
theorem OpnAt.mono {fuel : Nat} {t : TypeId} {Φ Ψ : AV → Prop} (h : OpnAt enc P W fuel t Φ) (hm : ∀ x, Φ x → Ψ x) : OpnAt enc P W fuel t Ψ := fun cs y hy => by
  obtain ⟨x, h1, h2⟩ := h cs y hy
  exact ⟨x, hm x h1, h2⟩
theorem OpnAt.int {fuel : Nat} {t : TypeId} {k : IntKind} (ht : P.underlying t = some (.int k)) : OpnAt enc P W fuel t (fun x => ∃ a, x = .lit (.int k a) ∧ (Lit.int k a).wf = true) := fun cs y hy => by
  obtain ⟨a, rfl, _, h⟩ := DataW.trod_int ht hy
  exact ⟨_, ⟨a, rfl, h⟩, .one rfl fun m => .lit _⟩
theorem OpnAt.bool {fuel : Nat} {t : TypeId} (ht : P.underlying t = some .bool) : OpnAt enc P W fuel t (fun x => ∃ a, x = .lit (.bool a)) := fun cs y hy => by
  obtain ⟨a, rfl, _⟩ := DataW.trod_bool ht hy
  exact ⟨_, ⟨a, rfl⟩, .one rfl fun m => .lit _⟩
theorem OpnAt.str {fuel : Nat} {t : TypeId} (ht : P.underlying t = some .string) : OpnAt enc P W fuel t (fun x => ∃ s : ByteArray, x = .lit (.string s) ∧ s.size ≤ maxLen) := fun cs y hy => by
  obtain ⟨s, rfl, _, h⟩ := DataW.trod_string ht hy
  exact ⟨_, ⟨s, rfl, h⟩, .one rfl fun m => .lit _⟩
theorem OpnAt.bytes {fuel : Nat} {t e : TypeId} (ht : P.underlying t = some (.slice e)) (he : P.underlying e = some (.int .u8)) (hc : P.cellsOf e = 1) : OpnAt enc P W fuel t (fun x => ∃ bs, x = .by_ bs) := fun cs y hy => by
  have h1 : ∃ u, cs = [u] := by
    rcases open_slice ht hy with ⟨h, _⟩ | ⟨a, l, c, _, _, _, _, h, _⟩
    · exact ⟨_, h⟩
    · exact ⟨_, h⟩
  obtain ⟨u, rfl⟩ := h1
  obtain ⟨A, n, c, bs, rfl, hr⟩ := opn_bytes1 ht he hc hy
  exact ⟨_, ⟨bs, rfl⟩, .one rfl fun m => VR_of_Rd hr fun b o h => h⟩
theorem OpnAt.list {fuel : Nat} {t e : TypeId} {es : Nat} {Φ : AV → Prop} (ht : P.underlying t = some (.slice e)) (hc : P.cellsOf e = es) (h0 : 0 < es) (he : ∀ n, n < fuel → OpnAt enc P W n e Φ) : OpnAt enc P W fuel t (fun x => ∃ xs, x = .li es xs ∧ ∀ y ∈ xs, Φ y) := fun cs y hy => by
  rcases DataW.trod_slice ht hy with ⟨rfl, _⟩ | ⟨a, len, cap, elems, rest, n, hfu, rfl, _, hb, hl, hm, hlen, hel, _⟩
  · exact ⟨.li es [], ⟨[], rfl, fun y hy => absurd hy (by simp)⟩, .one rfl fun m => .li (us := fun _ => undef) rfl (Nat.le_refl _) (Nat.zero_le _) (fun _ => rfl) h0 (fun x hx => absurd hx (by simp)) (.inl (by simp)) (fun i j x y' hx => absurd hx (by simp))⟩
  · rw [hc] at hel
    have hX : ∀ i, i < len → ∃ (x : AV) (c : List Value), Φ x ∧ CellsR W x c ∧ c.length = es ∧ ∀ j, j < es → W.cell? ((a.add (i * es)).add j) = c[j]? := by
      intro i hi
      have h1 := hel i hi
      have h2 : elems[i]? = some (elems[i]'(by omega)) := List.getElem?_eq_getElem _
      rw [h2] at h1
      obtain ⟨c, h3, h4⟩ := Option.bind_eq_some_iff.1 h1
      obtain ⟨_, h5, h6⟩ := World.cells?_some h3
      obtain ⟨x, h7, h8⟩ := he n (by omega) c _ h4
      exact ⟨x, c, h7, h8, h5, h6⟩
    obtain ⟨F, hF⟩ : ∃ F : Nat → AV × List Value, ∀ i, i < len → Φ (F i).1 ∧ CellsR W (F i).1 (F i).2 ∧ (F i).2.length = es ∧ ∀ j, j < es → W.cell? ((a.add (i * es)).add j) = (F i).2[j]? := by
      refine ⟨fun i => if h : i < len then (Classical.choose (hX i h), Classical.choose (Classical.choose_spec (hX i h))) else (.any, []), fun i hi => ?_⟩
      simp only [dif_pos hi]
      exact Classical.choose_spec (Classical.choose_spec (hX i hi))
    let X : Nat → AV := fun i => (F i).1
    let C : Nat → List Value := fun i => (F i).2
    have hX1 : ∀ i, i < len → Φ (X i) := fun i hi => (hF i hi).1
    have hX2 : ∀ i, i < len → CellsR W (X i) (C i) := fun i hi => (hF i hi).2.1
    have hX3 : ∀ i, i < len → (C i).length = es := fun i hi => (hF i hi).2.2.1
    have hX4 : ∀ i, i < len → ∀ j, j < es → W.cell? ((a.add (i * es)).add j) = (C i)[j]? := fun i hi => (hF i hi).2.2.2
    clear_value X C
    have hat : ∀ (i : Nat) (x : AV), ((List.range len).map X)[i]? = some x → i < len ∧ x = X i := by
      intro i x hx
      rw [List.getElem?_map] at hx
      obtain ⟨q, h1, rfl⟩ := Option.map_eq_some_iff.1 hx
      obtain ⟨h2, h3⟩ := List.getElem?_eq_some_iff.1 h1
      simp at h2 h3
      exact ⟨h2, by rw [h3]⟩
    have hspot : 0 < len → ∃ b off, a = ⟨b, off, none⟩ := by
      intro hpos
      have h1 := hX4 0 hpos 0 h0
      have h2 := hX3 0 hpos
      rw [List.getElem?_eq_getElem (by omega)] at h1
      obtain ⟨b, off, spot⟩ := a
      have : spot = none := by simpa [Addr.add] using World.cell?_spot h1
      subst this
      exact ⟨b, off, rfl⟩
    refine ⟨.li es ((List.range len).map X), ⟨_, rfl, fun y hy => ?_⟩, .one rfl fun m => ?_⟩
    · obtain ⟨i, hi, rfl⟩ := List.mem_map.1 hy
      exact hX1 i (by simpa using hi)
    · refine .li (us := fun q => (W.cell? (a.add q)).getD undef) (by simp) hl hm (fun h => by cases h) h0 (fun x hx => ?_) ?_ (fun i j x y' hx hy' => ?_)
      · obtain ⟨i, hi, rfl⟩ := List.mem_map.1 hx
        have hi : i < len := by simpa using hi
        rw [(hX2 i hi).1, hX3 i hi]
      · rcases Nat.eq_zero_or_pos len with h1 | hpos
        · exact .inl (by rw [h1]; simp)
        · obtain ⟨b, off, rfl⟩ := hspot hpos
          refine .inr ⟨b, off, rfl, fun q hq => ?_⟩
          have hi : q / es < len := Nat.div_lt_of_lt_mul (by rw [Nat.mul_comm]; exact hq)
          have hj : q % es < es := Nat.mod_lt _ h0
          have h1 := hX4 (q / es) hi (q % es) hj
          have e1 : q / es * es + q % es = q := by rw [Nat.mul_comm]; exact Nat.div_add_mod q es
          rw [TravelBase.add_plain, TravelBase.add_plain, Nat.add_assoc, e1, List.getElem?_eq_getElem (by rw [hX3 _ hi]; exact hj)] at h1
          refine ⟨World.block_lt_of_cell? W _ h1, ?_⟩
          simp only [TravelBase.add_plain, h1, Option.getD_some]
      · obtain ⟨hi, rfl⟩ := hat i x hx
        have hj : j < es := by
          have := (List.getElem?_eq_some_iff.1 hy').1
          rw [(hX2 i hi).1, hX3 i hi] at this
          exact this
        obtain ⟨b, off, rfl⟩ := hspot (by omega)
        have h1 := hX4 i hi j hj
        have h2 : (C i)[j]? = some ((C i)[j]'(by rw [hX3 i hi]; exact hj)) := List.getElem?_eq_getElem _
        have h3 := (hX2 i hi).2 j y' _ hy' h2 m
        rw [h2, TravelBase.add_plain, TravelBase.add_plain, Nat.add_assoc] at h1
        simp only [TravelBase.add_plain, h1, Option.getD_some]
        exact h3
/-- Fields that lie one behind the other. -/
def contigB (P : Program) : List Field → Nat → Nat → Bool
  | [], o, n => o == n
  | f :: fs, o, n => (f.offset == o) && contigB P fs (o + P.cellsOf f.type) n
theorem contig_le : ∀ (fs : List Field) (o n : Nat), contigB P fs o n = true → o ≤ n
  | [], o, n, h => by simp [contigB] at h; omega
  | f :: fs, o, n, h => by
    simp only [contigB, Bool.and_eq_true] at h
    have := contig_le fs _ _ h.2
    omega
theorem parts_of : ∀ (fs : List Field) (o i0 : Nat) (cs : List Value) (Φ : Nat → AV → Prop), contigB P fs o cs.length = true →
    (∀ (k : Nat) (f : Field), fs[k]? = some f → ∃ x, Φ (i0 + k) x ∧ CellsR W x ((cs.drop f.offset).take (P.cellsOf f.type))) →
    ∃ ps : List AV, ps.length = fs.length ∧ (∀ (k : Nat) (p : AV), ps[k]? = some p → Φ (i0 + k) p) ∧ (ps.flatMap AV.cl).length = (cs.drop o).length ∧
      ∀ (j : Nat) (z : AV) (u : Value), (ps.flatMap AV.cl)[j]? = some z → (cs.drop o)[j]? = some u → ∀ m, VR W (fun b _ => b < W.heap.size) m z u
  | [], o, i0, cs, Φ, hc, _ => by
    simp [contigB] at hc
    subst hc
    exact ⟨[], rfl, fun k p hp => by simp at hp, by simp, fun j z u hz => by simp at hz⟩
  | f :: fs, o, i0, cs, Φ, hc, hf => by
    simp only [contigB, Bool.and_eq_true, beq_iff_eq] at hc
    obtain ⟨ho, hc⟩ := hc
    have hle := contig_le fs _ _ hc
    obtain ⟨x, h1, h2, h3⟩ := hf 0 f rfl
    obtain ⟨ps, q1, q2, q3, q4⟩ := parts_of fs (o + P.cellsOf f.type) (i0 + 1) cs Φ hc (fun k g hg => by
      have := hf (k + 1) g (by simpa using hg)
      rwa [show i0 + (k + 1) = i0 + 1 + k by omega] at this)
    rw [ho] at h2 h3
    have hlen : x.cl.length = P.cellsOf f.type := by
      rw [h2, List.length_take, List.length_drop]
      omega
    refine ⟨x :: ps, by simp [q1], fun k p hp => ?_, ?_, fun j z u hz hu m => ?_⟩
    · match k, hp with
      | 0, hp => simp at hp; subst hp; exact h1
      | k + 1, hp =>
        have := q2 k p (by simpa using hp)
        rwa [show i0 + (k + 1) = i0 + 1 + k by omega]
    · rw [List.flatMap_cons, List.length_append, q3, hlen, List.length_drop, List.length_drop]
      omega
    · rw [List.flatMap_cons] at hz
      rcases Nat.lt_or_ge j x.cl.length with hj | hj
      · rw [List.getElem?_append_left hj] at hz
        refine h3 j z u hz ?_ m
        rw [List.getElem?_take, if_pos (by omega)]
        exact hu
      · rw [List.getElem?_append_right hj] at hz
        refine q4 (j - x.cl.length) z u hz ?_ m
        rw [← hu, List.getElem?_drop, List.getElem?_drop, hlen]
        congr 1
        omega
theorem OpnAt.struct {fuel : Nat} {t : TypeId} {fs : Array Field} {Φ : Nat → AV → Prop} (ht : P.underlying t = some (.struct fs)) (hc : contigB P fs.toList 0 (P.cellsOf t) = true) (hf : ∀ (k : Nat) (f : Field), fs[k]? = some f → ∀ n, n < fuel → OpnAt enc P W n f.type (Φ k)) :
    OpnAt enc P W fuel t (fun x => ∃ ps : List AV, x = .agg (ps.flatMap AV.cl) ∧ ps.length = fs.size ∧ ∀ (k : Nat) (p : AV), ps[k]? = some p → Φ k p) := fun cs y hy => by
  obtain ⟨xs, n, hfu, _, hlen, hxl, hg⟩ := DataW.trod_struct ht hy
  obtain ⟨ps, q1, q2, q3, q4⟩ := parts_of (P := P) (W := W) fs.toList 0 0 cs Φ (by rw [hlen]; exact hc) (fun k f hk => by
    have hk' : fs[k]? = some f := by simpa using hk
    have h1 := hg k f hk'
    have hk2 : k < xs.length := by rw [hxl]; exact (Array.getElem?_eq_some_iff.1 hk').1
    rw [List.getElem?_eq_getElem hk2] at h1
    rw [Nat.zero_add]
    exact hf k f hk' n (by omega) _ _ h1)
  simp only [List.drop_zero, Nat.zero_add] at q2 q3 q4
  exact ⟨_, ⟨ps, rfl, by rw [q1]; simp, q2⟩, q3, q4⟩
theorem OpnAt.array {fuel : Nat} {t e : TypeId} {n es : Nat} {Φ : AV → Prop} (ht : P.underlying t = some (.array n e)) (hc : P.cellsOf t = n * es) (hes : P.cellsOf e = es) (he : ∀ m, m < fuel → OpnAt enc P W m e Φ) :
    OpnAt enc P W fuel t (fun x => ∃ ps : List AV, x = .agg (ps.flatMap AV.cl) ∧ ps.length = n ∧ ∀ p ∈ ps, Φ p) := fun cs y hy => by
  obtain ⟨xs, m, hfu, _, hlen, hxl, hg⟩ := DataW.trod_array ht hy
  rw [hes] at hg
  have key : ∀ k, k ≤ n → ∃ ps : List AV, ps.length = k ∧ (∀ p ∈ ps, Φ p) ∧ (ps.flatMap AV.cl).length = k * es ∧
      ∀ (j : Nat) (z : AV) (u : Value), (ps.flatMap AV.cl)[j]? = some z → cs[j]? = some u → ∀ m, VR W (fun b _ => b < W.heap.size) m z u := by
    intro k
    induction k with
    | zero => exact fun _ => ⟨[], rfl, fun p hp => by simp at hp, by simp, fun j z u hz => by simp at hz⟩
    | succ k ih =>
      intro hk
      obtain ⟨ps, q1, q2, q3, q4⟩ := ih (by omega)
      have h1 := hg k (by omega)
      rw [List.getElem?_eq_getElem (by omega)] at h1
      obtain ⟨x, h2, h3, h4⟩ := he m (by omega) _ _ h1
      have hkn : k * es + es ≤ n * es := by rw [← Nat.succ_mul]; exact Nat.mul_le_mul_right es hk
      have hl : x.cl.length = es := by
        rw [h3, List.length_take, List.length_drop]
        omega
      refine ⟨ps ++ [x], by simp [q1], fun p hp => ?_, ?_, fun j z u hz hu mm => ?_⟩
      · rcases List.mem_append.1 hp with hp | hp
        · exact q2 p hp
        · simp at hp; subst hp; exact h2
      · simp only [List.flatMap_append, List.length_append, q3, List.flatMap_cons, List.flatMap_nil, List.append_nil, hl, Nat.succ_mul]
      · simp only [List.flatMap_append, List.flatMap_cons, List.flatMap_nil, List.append_nil] at hz
        rcases Nat.lt_or_ge j (ps.flatMap AV.cl).length with hj | hj
        · rw [List.getElem?_append_left hj] at hz
          exact q4 j z u hz hu mm
        · rw [List.getElem?_append_right hj] at hz
          have hj2 : j - (ps.flatMap AV.cl).length < es := by
            rw [← hl]; exact (List.getElem?_eq_some_iff.1 hz).1
          refine h4 _ z u hz ?_ mm
          rw [List.getElem?_take, if_pos hj2, List.getElem?_drop, ← hu]
          congr 1
          omega
  obtain ⟨ps, q1, q2, q3, q4⟩ := key n (Nat.le_refl _)
  exact ⟨_, ⟨ps, rfl, q1, q2⟩, by show (ps.flatMap AV.cl).length = _; rw [q3, hlen, hc], q4⟩
/-- A struct, field by field. -/
def FsOK (enc : TypeId × Value → H) (P : Program) (W : World) (fuel : Nat) (Φ : Nat → AV → Prop) : List Field → Nat → Prop
  | [], _ => True
  | f :: fs, k => (∀ n, n < fuel → OpnAt enc P W n f.type (Φ k)) ∧ FsOK enc P W fuel Φ fs (k + 1)
theorem FsOK.at_ {fuel : Nat} {Φ : Nat → AV → Prop} : ∀ {fs : List Field} {i0 : Nat}, FsOK enc P W fuel Φ fs i0 → ∀ (k : Nat) (f : Field), fs[k]? = some f → ∀ n, n < fuel → OpnAt enc P W n f.type (Φ (i0 + k))
  | [], _, _, k, f, hk => by simp at hk
  | g :: fs, i0, h, 0, f, hk => by
    simp at hk
    subst hk
    exact h.1
  | g :: fs, i0, h, k + 1, f, hk => by
    have := FsOK.at_ h.2 k f (by simpa using hk)
    rwa [show i0 + 1 + k = i0 + (k + 1) by omega] at this
theorem OpnAt.structL {fuel : Nat} {t : TypeId} {fs : Array Field} (Φ : Nat → AV → Prop) (ht : P.underlying t = some (.struct fs)) (hc : contigB P fs.toList 0 (P.cellsOf t) = true) (hf : FsOK enc P W fuel Φ fs.toList 0) :
    OpnAt enc P W fuel t (fun x => ∃ ps : List AV, x = .agg (ps.flatMap AV.cl) ∧ ps.length = fs.size ∧ ∀ (k : Nat) (p : AV), ps[k]? = some p → Φ k p) :=
  OpnAt.struct ht hc fun k f hk n hn => by
    have := hf.at_ k f (by simpa using hk) n hn
    rwa [Nat.zero_add] at this
theorem list_as {T : Type} (g : T → AV) {Q : T → Prop} : ∀ {xs : List AV}, (∀ y ∈ xs, ∃ w, y = g w ∧ Q w) → ∃ ws : List T, xs = ws.map g ∧ ∀ w ∈ ws, Q w
  | [], _ => ⟨[], rfl, fun w hw => absurd hw (by simp)⟩
  | y :: xs, h => by
    obtain ⟨w, h1, h2⟩ := h y (by simp)
    obtain ⟨ws, h3, h4⟩ := list_as g (fun z hz => h z (List.mem_cons_of_mem _ hz))
    exact ⟨w :: ws, by rw [h1, h3]; rfl, fun v hv => by
      rcases List.mem_cons.1 hv with rfl | hv
      · exact h2
      · exact h4 v hv⟩
/-- A parameter of one cell, and a struct or an array. -/
theorem opn_cell {t : TypeId} {v : Value} {d : DataW H} {p : List MemPlace} {Φ : AV → Prop} (hv : v.cells = #[v]) (hO : ∀ fuel, OpnAt enc P W fuel t Φ) (h1 : ∀ x, Φ x → x.cl = [x]) (h : DataW.Trod enc P W 0 (fun _ => true) true t v d p) : ∃ x, Φ x ∧ ∀ m, VR W (fun b _ => b < W.heap.size) m x v := by
  obtain ⟨fuel, ht⟩ := h
  rw [hv] at ht
  obtain ⟨x, h2, h3, h4⟩ := hO fuel _ _ ht
  refine ⟨x, h2, fun m => h4 0 x v ?_ rfl m⟩
  rw [h1 x h2]
  rfl
theorem opn_row {t : TypeId} {cs : Array Value} {d : DataW H} {p : List MemPlace} {Φ : AV → Prop} (hO : ∀ fuel, OpnAt enc P W fuel t Φ) (h : DataW.Trod enc P W 0 (fun _ => true) true t (.agg cs) d p) : ∃ x, Φ x ∧ ∀ m, VR W (fun b _ => b < W.heap.size) m (.agg x.cl) (.agg cs) := by
  obtain ⟨fuel, ht⟩ := h
  obtain ⟨x, h2, h3, h4⟩ := hO fuel _ _ ht
  refine ⟨x, h2, fun m => .agg ?_ fun j z u hz hu => h4 j z u hz (by simpa [Value.cells] using hu) m⟩
  rw [h3]
  simp [Value.cells]
end
end Go.Proofs.YtgmmdijmlnehlaaDoor
