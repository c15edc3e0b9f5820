import Derived.Test.YtgmmdijmlnehlaaDoorRows
import Derived.Test.YtgmmdijmlnehlaaDoorBase
import Derived.ProofKit
import Derived.OpenShut
import Derived.ShutString
import Derived.ChangeOld
import Derived.SizedLaws
import Derived.Deep.CondSized
namespace Go.Proofs.YtgmmdijmlnehlaaDoor
open Go.ChangeShapes Go.WideShapes Go.ChangeAt Go.RowKit Go.TravelBase
set_option linter.unusedVariables false
set_option linter.unusedSimpArgs false

theorem own_ : ownKnob Tryd.prog.godebug = none := by kernel_rfl
theorem laidOut_ : laidOutB Tryd.prog = true := by kernel_rfl

section
variable {H : Type} {enc : TypeId × Value → H} {P : Program} {W : World}
theorem trod_below {t : TypeId} {v : Value} {d : DataW H} {p : List MemPlace} (h : DataW.Trod enc P W 0 (fun _ => true) true t v d p) : ∀ x ∈ p, x.block < W.heap.size := by
  obtain ⟨m, hm⟩ := h
  exact DataW.trod_lt m _ _ _ hm
theorem byte_of_wf {z : Int} (h : (Lit.int .u8 z).wf = true) : Value.int .u8 z = bv (UInt8.ofNat z.toNat) := by
  have hb := bounds_u8 h
  obtain ⟨n, rfl⟩ := Int.eq_ofNat_of_zero_le hb.1
  rw [Int.toNat_natCast, ← own_u8 n (by omega)]
/-- A slice of integers that came in. -/
theorem opn_ints {t e : TypeId} {k : IntKind} {A : Option Addr} {n c : Nat} {d : DataW H} {p : List MemPlace} (ht : P.underlying t = some (.slice e)) (he : P.underlying e = some (.int k)) (hc : P.cellsOf e = 1)
    (h : DataW.Trod enc P W 0 (fun _ => true) true t (.slice A n c) d p) :
    ∃ zs : List Int, Rd W A n c (zs.map (Value.int k)) ∧ (∀ z ∈ zs, (Lit.int k z).wf = true) ∧ (d = .nil ∧ c = 0 ∨ ∃ es sp, d = .slice es sp ∧ es.length = n ∧ es.length + sp.length = c) := by
  have hlt := trod_below h
  obtain ⟨fuel, hf⟩ := h
  rcases open_ints ht he hc hf with ⟨hcs, hx⟩ | ⟨x, l, c', zs, hcs, _, hl, hm, hz, hx, hcell, hwz⟩
  · simp [Value.cells] at hcs
    obtain ⟨rfl, rfl, rfl⟩ := hcs
    simp only [Prod.mk.injEq] at hx
    exact ⟨[], Rd.nil_ W, fun z hz => by simp at hz, .inl ⟨hx.1, rfl⟩⟩
  · simp [Value.cells] at hcs
    obtain ⟨rfl, rfl, rfl⟩ := hcs
    simp only [Prod.mk.injEq] at hx
    simp only [if_true] at hz
    refine ⟨zs.take n, ⟨by simp; omega, hl, hm, (fun e => by cases e), fun hn => ?_⟩, fun z hzz => hwz z (List.mem_of_mem_take hzz), .inr ⟨_, _, hx.1, by simp [lits]; omega, by simp [lits]; omega⟩⟩
    have hc0 := hcell 0 (by omega)
    obtain ⟨b, off, spot⟩ := x
    have hspot : spot = none := by simpa [Addr.add] using World.cell?_spot hc0
    subst hspot
    refine ⟨b, off, rfl, World.block_lt_of_cell? W _ (by rw [TravelBase.add_plain] at hc0; exact hc0), fun j u hu => ?_⟩
    have hj : j < n := by
      have := (List.getElem?_eq_some_iff.1 hu).1
      simp at this
      omega
    have h1 := hcell j (by omega)
    rw [TravelBase.add_plain] at h1
    rw [h1, ← hu]
    simp [List.getElem?_take, hj, List.getD, show j < zs.length by omega]
/-- Bytes that came in. -/
theorem opn_bytes {t e : TypeId} {A : Option Addr} {n c : Nat} {d : DataW H} {p : List MemPlace} (ht : P.underlying t = some (.slice e)) (he : P.underlying e = some (.int .u8)) (hc : P.cellsOf e = 1)
    (h : DataW.Trod enc P W 0 (fun _ => true) true t (.slice A n c) d p) :
    ∃ bs : List UInt8, Rd W A n c (bvs bs) ∧ (d = .nil ∧ c = 0 ∨ ∃ es sp, d = .slice es sp ∧ es.length = n ∧ es.length + sp.length = c) := by
  obtain ⟨zs, hr, hw, hd⟩ := opn_ints ht he hc h
  refine ⟨zs.map fun z => UInt8.ofNat z.toNat, ?_, hd⟩
  have e : zs.map (Value.int .u8) = bvs (zs.map fun z => UInt8.ofNat z.toNat) := by
    rw [bvs, List.map_map]
    exact List.map_congr_left fun z hz => byte_of_wf (hw z hz)
  rwa [e] at hr
/-! The bound of the second form. -/
theorem upto_one {H : Type} (d : DataW H) : 1 ≤ Rows.uptoBulk d := by
  cases d with
  | lit l => cases l <;> simp [Rows.uptoBulk]
  | _ => simp [Rows.uptoBulk]
theorem upto_len {H : Type} (l : List (DataW H)) : l.length ≤ Rows.uptoBulkAll l := by
  induction l with
  | nil => simp [Rows.uptoBulkAll]
  | cons x r ih => have := upto_one x; simp only [Rows.uptoBulkAll, List.length_cons]; omega
theorem upto_slice {H : Type} (es sp : List (DataW H)) : es.length + sp.length + 1 ≤ Rows.uptoBulk (.slice es sp) := by
  have h1 := upto_len es
  have h2 := upto_len sp
  simp only [Rows.uptoBulk]
  omega
theorem upto_part {H : Type} : ∀ {l : List (DataW H)} {i : Nat} {d : DataW H}, l[i]? = some d → Rows.uptoBulk d ≤ Rows.uptoBulkAll l
  | [], i, d, h => by simp at h
  | x :: r, 0, d, h => by
    simp at h
    subst h
    simp only [Rows.uptoBulkAll]
    omega
  | x :: r, i + 1, d, h => by
    have := upto_part (l := r) (i := i) (d := d) (by simpa using h)
    simp only [Rows.uptoBulkAll]
    omega
theorem upto_at {H : Type} {l : List (DataW H)} (hk : Rows.uptoSmall H l = true) {i : Nat} {d : DataW H} (h : l[i]? = some d) : Rows.uptoBulk d ≤ 1048576 :=
  Nat.le_trans (upto_part h) (of_decide_eq_true hk)
end
end Go.Proofs.YtgmmdijmlnehlaaDoor
