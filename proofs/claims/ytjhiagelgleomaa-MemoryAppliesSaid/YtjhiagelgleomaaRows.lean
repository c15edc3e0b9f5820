/-
  No cell of these rows narrows 'for every input' (looked for: loops, veiled, ifaces, maps, wideKeys, modest, calm, conditions, laid).
  DERIVED. THE GIVEN ROWS OF THIS SEAT. 5 by the template 'for every input the law returns true; each argument reads behind the call as it read before'; 0 by the template 'total and deterministic' (their statements: YtjhiagelgleomaaTotals.lean).
  GIVEN WITH THE SEED: the statements are not yours to turn. If you find one false, say at which input.
  Laid BY PROGRAM, IN A SANDBOX (cutbox-rows.mjs): the forced cells as the released guide's own fill.sh prints them over the translation af0b0b39999dc17a… (all of the seat's roots in one cut). By AI agents, Wed Nov 11 2026. No macro, syntax, notation, axiom, sorry.
-/
import Derived.Test.YtjhiagelgleomaaChecked
import GoSem.Claim
import GoSem.ClaimJoined
import GoSem.ClaimMapViews
import Derived.JoinedTies
import Derived.KernelRfl
namespace Go.Proofs.Ytjhiagelgleomaa
/- THE CELL 'sum', in the pinned program and in every row, IS THE sha256 OF THE DUMP (.gsa) THAT YtjhiagelgleomaaProg.lean LOADS. Nothing in Lean hashes anything: it is a label: what it is worth is what the hold of that sum in a sandbox is worth. -/
noncomputable def Try.pinned : Pinned := { name := "ytjhiagelgleomaa", sum := "af0b0b39999dc17a924e6950a31826a683fbfeec60d0175f24bba8d5b4b3df95", checked := Try.checked }
namespace Rows
def none {H : Type} : Left H := { results := [], args := [] }

/-- 'traveldoclaw22.MemoryExact': WHATEVER THE INPUT: true; the input reads as it did. -/
def memoryExactSpec : ChangeSpec := { name := "memoryExact", fn := fun _ => fun
  | [d1, d2] => { results := [.lit (.bool true)], args := [d1, d2] }
  | _ => none }
def memoryExactRow : OpenClaim := { program := "ytjhiagelgleomaa", sum := "af0b0b39999dc17a924e6950a31826a683fbfeec60d0175f24bba8d5b4b3df95", func := "traveldoc/traveldoclaw22.MemoryExact", spec := "memoryExact", apart := false }
def MemoryExactSaid : Prop := memoryExactRow.holds Try.pinned (OpenSpec.ofChange memoryExactSpec)

/-- ITS FALSE NEIGHBOUR: 'it returns false'. Refute it at one input. -/
def memoryExactWrong : ChangeSpec := { name := "memoryExact", fn := fun _ => fun
  | [d1, d2] => { results := [.lit (.bool false)], args := [d1, d2] }
  | _ => none }
def MemoryExactWrongFalsely : Prop := memoryExactRow.holds Try.pinned (OpenSpec.ofChange memoryExactWrong)

/-- 'traveldoclaw22.MemoryMade': WHATEVER THE INPUT: true; the input reads as it did. -/
def memoryMadeSpec : ChangeSpec := { name := "memoryMade", fn := fun _ => fun
  | [d1, d2] => { results := [.lit (.bool true)], args := [d1, d2] }
  | _ => none }
def memoryMadeRow : OpenClaim := { program := "ytjhiagelgleomaa", sum := "af0b0b39999dc17a924e6950a31826a683fbfeec60d0175f24bba8d5b4b3df95", func := "traveldoc/traveldoclaw22.MemoryMade", spec := "memoryMade", apart := false }
def MemoryMadeSaid : Prop := memoryMadeRow.holds Try.pinned (OpenSpec.ofChange memoryMadeSpec)

/-- ITS FALSE NEIGHBOUR: 'it returns false'. Refute it at one input. -/
def memoryMadeWrong : ChangeSpec := { name := "memoryMade", fn := fun _ => fun
  | [d1, d2] => { results := [.lit (.bool false)], args := [d1, d2] }
  | _ => none }
def MemoryMadeWrongFalsely : Prop := memoryMadeRow.holds Try.pinned (OpenSpec.ofChange memoryMadeWrong)

/-- 'traveldoclaw22.MemoryApplies': WHATEVER THE INPUT: true; the input reads as it did. -/
def memoryAppliesSpec : ChangeSpec := { name := "memoryApplies", fn := fun _ => fun
  | [d1, d2, d3] => { results := [.lit (.bool true)], args := [d1, d2, d3] }
  | _ => none }
def memoryAppliesRow : OpenClaim := { program := "ytjhiagelgleomaa", sum := "af0b0b39999dc17a924e6950a31826a683fbfeec60d0175f24bba8d5b4b3df95", func := "traveldoc/traveldoclaw22.MemoryApplies", spec := "memoryApplies", apart := false }
def MemoryAppliesSaid : Prop := memoryAppliesRow.holds Try.pinned (OpenSpec.ofChange memoryAppliesSpec)

/-- ITS FALSE NEIGHBOUR: 'it returns false'. Refute it at one input. -/
def memoryAppliesWrong : ChangeSpec := { name := "memoryApplies", fn := fun _ => fun
  | [d1, d2, d3] => { results := [.lit (.bool false)], args := [d1, d2, d3] }
  | _ => none }
def MemoryAppliesWrongFalsely : Prop := memoryAppliesRow.holds Try.pinned (OpenSpec.ofChange memoryAppliesWrong)

/-- 'traveldoclaw22.MemorySurvives': WHATEVER THE INPUT: true; the input reads as it did. -/
def memorySurvivesSpec : ChangeSpec := { name := "memorySurvives", fn := fun _ => fun
  | [d1, d2, d3] => { results := [.lit (.bool true)], args := [d1, d2, d3] }
  | _ => none }
def memorySurvivesRow : OpenClaim := { program := "ytjhiagelgleomaa", sum := "af0b0b39999dc17a924e6950a31826a683fbfeec60d0175f24bba8d5b4b3df95", func := "traveldoc/traveldoclaw22.MemorySurvives", spec := "memorySurvives", apart := false }
def MemorySurvivesSaid : Prop := memorySurvivesRow.holds Try.pinned (OpenSpec.ofChange memorySurvivesSpec)

/-- ITS FALSE NEIGHBOUR: 'it returns false'. Refute it at one input. -/
def memorySurvivesWrong : ChangeSpec := { name := "memorySurvives", fn := fun _ => fun
  | [d1, d2, d3] => { results := [.lit (.bool false)], args := [d1, d2, d3] }
  | _ => none }
def MemorySurvivesWrongFalsely : Prop := memorySurvivesRow.holds Try.pinned (OpenSpec.ofChange memorySurvivesWrong)

/-- 'traveldoclaw22.MemoryKeeps': WHATEVER THE INPUT: true; the input reads as it did. -/
def memoryKeepsSpec : ChangeSpec := { name := "memoryKeeps", fn := fun _ => fun
  | [d1, d2, d3] => { results := [.lit (.bool true)], args := [d1, d2, d3] }
  | _ => none }
def memoryKeepsRow : OpenClaim := { program := "ytjhiagelgleomaa", sum := "af0b0b39999dc17a924e6950a31826a683fbfeec60d0175f24bba8d5b4b3df95", func := "traveldoc/traveldoclaw22.MemoryKeeps", spec := "memoryKeeps", apart := false }
def MemoryKeepsSaid : Prop := memoryKeepsRow.holds Try.pinned (OpenSpec.ofChange memoryKeepsSpec)

/-- ITS FALSE NEIGHBOUR: 'it returns false'. Refute it at one input. -/
def memoryKeepsWrong : ChangeSpec := { name := "memoryKeeps", fn := fun _ => fun
  | [d1, d2, d3] => { results := [.lit (.bool false)], args := [d1, d2, d3] }
  | _ => none }
def MemoryKeepsWrongFalsely : Prop := memoryKeepsRow.holds Try.pinned (OpenSpec.ofChange memoryKeepsWrong)

/- THE SECOND FORM. 'bulk': how many values and letters a reading holds, each counted each time it is reached (what is shared counts as often as it is met; a slice's spare places count too). A statement '..UptoSaid' is the law's where the arguments, and the package variables that the reading takes, are together of bulk at most 1048576: NARROWER than '..Said'. Prove '..Said' where nothing that the law and all that it calls make is longer than what came in: it says more and counts as full. Else prove '..UptoSaid'. A law counts once. -/
mutual
def uptoBulk {H : Type} : DataW H → Nat
  | .lit (.string bytes) => bytes.length + 1
  | .lit _ => 1
  | .nil => 1
  | .ptr d => uptoBulk d + 1
  | .slice elems spare => uptoBulkAll elems + uptoBulkAll spare + 1
  | .agg parts => uptoBulkAll parts + 1
  | .iface _ d => uptoBulk d + 1
  | .map entries => uptoBulkEntries entries + 1
  | .held _ => 1
def uptoBulkAll {H : Type} : List (DataW H) → Nat
  | [] => 0
  | d :: r => uptoBulk d + uptoBulkAll r
def uptoBulkEntries {H : Type} : List (Lit × DataW H) → Nat
  | [] => 0
  | x :: r => uptoBulkEntry x + uptoBulkEntries r
def uptoBulkEntry {H : Type} : Lit × DataW H → Nat
  | (.string bytes, d) => bytes.length + uptoBulk d + 1
  | (_, d) => uptoBulk d + 1
 end
def uptoSmall : (H : Type) → List (DataW H) → Bool := fun _ ds => decide (uptoBulkAll ds ≤ 1048576)
def OpenSpec.upto (s : _root_.Go.ChangeSpec) : _root_.Go.OpenSpec := { _root_.Go.OpenSpec.ofChange s with cond := some uptoSmall }

/-- 'traveldoclaw22.MemoryExact', WHERE WHAT IT READS IS OF BULK AT MOST 1048576: true; the input reads as it did. -/
def memoryExactUptoRow : OpenClaim := { program := "ytjhiagelgleomaa", sum := "af0b0b39999dc17a924e6950a31826a683fbfeec60d0175f24bba8d5b4b3df95", func := "traveldoc/traveldoclaw22.MemoryExact", spec := "memoryExact", apart := false, narrowed := true }
def MemoryExactUptoSaid : Prop := memoryExactUptoRow.holds Try.pinned (OpenSpec.upto memoryExactSpec)

/-- 'traveldoclaw22.MemoryMade', WHERE WHAT IT READS IS OF BULK AT MOST 1048576: true; the input reads as it did. -/
def memoryMadeUptoRow : OpenClaim := { program := "ytjhiagelgleomaa", sum := "af0b0b39999dc17a924e6950a31826a683fbfeec60d0175f24bba8d5b4b3df95", func := "traveldoc/traveldoclaw22.MemoryMade", spec := "memoryMade", apart := false, narrowed := true }
def MemoryMadeUptoSaid : Prop := memoryMadeUptoRow.holds Try.pinned (OpenSpec.upto memoryMadeSpec)

/-- 'traveldoclaw22.MemoryApplies', WHERE WHAT IT READS IS OF BULK AT MOST 1048576: true; the input reads as it did. -/
def memoryAppliesUptoRow : OpenClaim := { program := "ytjhiagelgleomaa", sum := "af0b0b39999dc17a924e6950a31826a683fbfeec60d0175f24bba8d5b4b3df95", func := "traveldoc/traveldoclaw22.MemoryApplies", spec := "memoryApplies", apart := false, narrowed := true }
def MemoryAppliesUptoSaid : Prop := memoryAppliesUptoRow.holds Try.pinned (OpenSpec.upto memoryAppliesSpec)

/-- 'traveldoclaw22.MemorySurvives', WHERE WHAT IT READS IS OF BULK AT MOST 1048576: true; the input reads as it did. -/
def memorySurvivesUptoRow : OpenClaim := { program := "ytjhiagelgleomaa", sum := "af0b0b39999dc17a924e6950a31826a683fbfeec60d0175f24bba8d5b4b3df95", func := "traveldoc/traveldoclaw22.MemorySurvives", spec := "memorySurvives", apart := false, narrowed := true }
def MemorySurvivesUptoSaid : Prop := memorySurvivesUptoRow.holds Try.pinned (OpenSpec.upto memorySurvivesSpec)

/-- 'traveldoclaw22.MemoryKeeps', WHERE WHAT IT READS IS OF BULK AT MOST 1048576: true; the input reads as it did. -/
def memoryKeepsUptoRow : OpenClaim := { program := "ytjhiagelgleomaa", sum := "af0b0b39999dc17a924e6950a31826a683fbfeec60d0175f24bba8d5b4b3df95", func := "traveldoc/traveldoclaw22.MemoryKeeps", spec := "memoryKeeps", apart := false, narrowed := true }
def MemoryKeepsUptoSaid : Prop := memoryKeepsUptoRow.holds Try.pinned (OpenSpec.upto memoryKeepsSpec)

end Rows
end Go.Proofs.Ytjhiagelgleomaa
