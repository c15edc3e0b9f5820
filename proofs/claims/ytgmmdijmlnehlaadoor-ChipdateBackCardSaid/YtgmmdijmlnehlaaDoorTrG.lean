import Derived.Test.YtgmmdijmlnehlaaDoorCards
import Derived.Test.YtgmmdijmlnehlaaDoorTie
import Derived.Test.YtgmmdijmlnehlaaDoorAbsAB
import Derived.WalkKit
import Derived.ProofKit
import Derived.Deep.DeepHandedRow
import Derived.Lib.LaidTab
import Derived.SevenTiedAt
namespace Go.Proofs.YtgmmdijmlnehlaaDoor
open Go.RowKit Go.TravelBase Go.TravelAbs Go.ChangeShapes Go.WideShapes Go.ChangeAt
set_option linter.unusedVariables false

/-! ### The package variable that the rows list -/
def kTab : List Int := [1116352408, 1899447441, 3049323471, 3921009573, 961987163, 1508970993, 2453635748, 2870763221, 3624381080, 310598401, 607225278, 1426881987, 1925078388, 2162078206, 2614888103, 3248222580, 3835390401, 4022224774, 264347078, 604807628, 770255983, 1249150122, 1555081692, 1996064986, 2554220882, 2821834349, 2952996808, 3210313671, 3336571891, 3584528711, 113926993, 338241895, 666307205, 773529912, 1294757372, 1396182291, 1695183700, 1986661051, 2177026350, 2456956037, 2730485921, 2820302411, 3259730800, 3345764771, 3516065817, 3600352804, 4094571909, 275423344, 430227734, 506948616, 659060556, 883997877, 958139571, 1322822218, 1537002063, 1747873779, 1955562222, 2024104815, 2227730452, 2361852424, 2428436474, 2756734187, 3204031479, 3329325298]
def kRow : List (String × DataW Unit) := [("traveldoc/traveldocref04.constants", Rows.laid_traveldoc_traveldocref04_constants)]
theorem gKonst : Tryd.prog.globalNamed "traveldoc/traveldocref04.constants" = some 0 := by kernel_rfl
theorem gKonstT : (Tryd.prog.globals[0]?).map (·.type) = some 112 := by kernel_rfl
theorem cK : Tryd.prog.cellsOf 112 = 64 := by kernel_rfl
theorem cE : Tryd.prog.cellsOf 108 = 1 := by kernel_rfl
theorem kTabIs {W : World} (h : laidMetH Tryd.prog kRow W) : Lib.TabIs Tryd.prog W "traveldoc/traveldocref04.constants" .u32 kTab :=
  Lib.tabIs_of_head (rest := []) gKonst gKonstT Tryd.underlying112 Tryd.underlying108 cE cK h
theorem gl_of {W : World} (h : laidMetH Tryd.prog kRow W) : GLw W (fun b _ => b < W.heap.size) := fun g => by
  have hc := fun i hi => (kTabIs h).cell gKonst i hi
  by_cases hg : g = 0
  · subst hg
    have e : glA 0 = .ep (.agg (kTab.map fun z => .lit (.int .u32 z))) 0 := rfl
    rw [e]
    have hl : (AV.agg (kTab.map fun z => .lit (.int .u32 z))).cl = kTab.map fun z => .lit (.int .u32 z) := rfl
    refine VR.ep (o := 0) (fun j => .int .u32 (kTab.getD j 0)) (fun j hj => ?_) (fun j y hy => ?_)
    · rw [hl, List.length_map] at hj
      have := hc j hj
      rw [Nat.zero_add]
      exact ⟨World.block_lt_of_cell? W _ this, this⟩
    · rw [hl, List.getElem?_map] at hy
      obtain ⟨z, h1, rfl⟩ := Option.map_eq_some_iff.1 hy
      have e2 : kTab.getD j 0 = z := by simp [List.getD, h1]
      simp only [e2]
      exact .lit _
  · have e : glA g = .any := by
      have : ¬ (0 == g) = true := by simpa using fun q => hg q.symm
      unfold glA glL
      rw [List.find?_cons_of_neg (by simpa using fun q => hg q.symm)]
      rfl
    rw [e]
    exact VR.any _

/-- A world for the witness: the settled one, the table (block 0) holding what its initialiser lays. -/
noncomputable def laidWorld (os : Os) : World :=
  { World.holding Tryd.prog os ⟨#[], #[], []⟩ with heap := (World.holding Tryd.prog os ⟨#[], #[], []⟩).heap.modify 0 fun
      | .cells _ t frozen => .cells (kTab.map fun z => Value.int .u32 z).toArray t frozen
      | o => o }
theorem own_ : ownKnob Tryd.prog.godebug = none := by kernel_rfl
end Go.Proofs.YtgmmdijmlnehlaaDoor
