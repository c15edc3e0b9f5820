import Derived.Test.YtgmmdijmlnehlaaDoorCom
namespace Go.Proofs.YtgmmdijmlnehlaaDoor
open Go.RowKit Go.TravelBase Go.TravelAbs
set_option linter.unusedVariables false
set_option linter.unusedSimpArgs false



















/-! ### Dice over the abstract machine -/
def iA (z : Int) : AV := .lit (.int .i64 z)
def unI : AV → Int
  | .lit (.int _ z) => z
  | _ => 0
def DcOK (L : AV) (z : Int) : Prop := ∃ l : List Int, L = .li 1 (l.map iA) ∧ (∀ y ∈ l, -9223372036854775808 ≤ y ∧ y ≤ 9223372036854775807) ∧ 0 ≤ z ∧ z ≤ l.length ∧ l.length ≤ 400
/-- The next number, and the place behind it. -/
def nxI (L : AV) (z n : Int) : Int := if z < cN L then unI (cAt L z.toNat) % n else 0
def nxZ (L : AV) (z : Int) : Int := if z < cN L then z + 1 else z
theorem Tr_ia (l : List Int) : Tr (.li 1 (l.map iA)) = True := eq_true (Tr.li fun x hx y hy => by
  obtain ⟨z, _, rfl⟩ := List.mem_map.1 hx
  simp only [iA, AV.cl, List.mem_cons, List.not_mem_nil, or_false] at hy
  subst hy
  exact Tr.lit _)
theorem DcOK.tr {L : AV} {z : Int} (h : DcOK L z) : Tr L = True := by
  obtain ⟨l, rfl, _⟩ := h
  exact Tr_ia l
theorem dc_nx {L : AV} {z : Int} (h : DcOK L z) : DcOK L (nxZ L z) := by
  obtain ⟨l, rfl, h1, h2, h3, h4⟩ := h
  refine ⟨l, rfl, h1, ?_⟩
  unfold nxZ
  simp only [cN, List.length_map]
  split <;> omega
theorem nx_rng (L : AV) (z n : Int) (h : 1 ≤ n) : 0 ≤ nxI L z n ∧ nxI L z n < n := by
  unfold nxI
  split
  · exact ⟨Int.emod_nonneg _ (by omega), Int.emod_lt_of_pos _ (by omega)⟩
  · omega
theorem ia_at {l : List Int} {i : Nat} (h : i < l.length) : (l.map iA).getD i .any = .lit (.int .i64 l[i]) := by
  simp [List.getD, List.getElem?_eq_getElem h, iA]
theorem mod_neg (x n : Int) (hn : 1 ≤ n) (h : x.tmod n < 0) : x % n = x.tmod n + n := by
  have h1 := Int.tmod_add_mul_tdiv x n
  have h2 := Int.lt_tmod_of_pos x (show (0 : Int) < n by omega)
  have h3 : x = x.tmod n + n * x.tdiv n := by omega
  have h4 : x % n = (x.tmod n + n) % n := by
    conv => lhs; rw [h3]
    simp
  rw [h4]
  exact Int.emod_eq_of_lt (by omega) (by omega)
theorem mod_pos (x n : Int) (hn : 1 ≤ n) (h : ¬ x.tmod n < 0) : x % n = x.tmod n := by
  have h1 := Int.tmod_add_mul_tdiv x n
  have h2 := Int.tmod_lt_of_pos x (show (0 : Int) < n by omega)
  have h3 : x = x.tmod n + n * x.tdiv n := by omega
  have h4 : x % n = (x.tmod n) % n := by
    conv => lhs; rw [h3]
    simp
  rw [h4]
  exact Int.emod_eq_of_lt (by omega) h2
def sg0 : Sg := fun _ _ _ => none
theorem sg0_ok : SgOK Tryd.prog sg0 := fun _ _ _ _ _ _ h => by cases h
def st0 : Sg2 := fun _ _ _ => none
theorem st0_ok : Sg2OK Tryd.prog st0 := fun _ _ _ _ h => by cases h

theorem dc_roll {l : List Int} (h : ∀ y ∈ l, -9223372036854775808 ≤ y ∧ y ≤ 9223372036854775807) (h1 : l.length ≤ 400) : DcOK (.li 1 (l.map iA)) 0 := ⟨l, rfl, h, by omega, by omega, h1⟩
end Go.Proofs.YtgmmdijmlnehlaaDoor
