/-
  No cell of these rows narrows 'for every input' (looked for: loops, veiled, ifaces, maps, wideKeys, modest, calm, conditions, laid).
  DERIVED. THE GIVEN ROWS OF THIS SEAT. 6 by the template 'for every input the law returns true; each argument reads behind the call as it read before'; 0 by the template 'total and deterministic' (their statements: YteodlgmcniikpaaTotals.lean).
  GIVEN WITH THE SEED: the statements are not yours to turn. If you find one false, say at which input.
  Laid BY PROGRAM, IN A SANDBOX (cutbox-rows.mjs): the forced cells as the released guide's own fill.sh prints them over the translation 91ac96f6e7ed6d27… (all of the seat's roots in one cut). By AI agents, Wed Nov 11 2026. No macro, syntax, notation, axiom, sorry.
-/
import Derived.Test.YteodlgmcniikpaaChecked
import GoSem.Claim
import GoSem.ClaimJoined
import GoSem.ClaimMapViews
import Derived.JoinedTies
import Derived.KernelRfl
namespace Go.Proofs.Yteodlgmcniikpaa
/- THE CELL 'sum', in the pinned program and in every row, IS THE sha256 OF THE DUMP (.gsa) THAT YteodlgmcniikpaaProg.lean LOADS. Nothing in Lean hashes anything: it is a label: what it is worth is what the hold of that sum in a sandbox is worth. -/
noncomputable def Try.pinned : Pinned := { name := "yteodlgmcniikpaa", sum := "91ac96f6e7ed6d2737d916106c3a45976ebe3ae997c79d152fc1ff78435f4e81", checked := Try.checked }
namespace Rows
def none {H : Type} : Left H := { results := [], args := [] }

/-- 'traveldoclaw18.CommandExact': WHATEVER THE INPUT: true; the input reads as it did. -/
def commandExactSpec : ChangeSpec := { name := "commandExact", fn := fun _ => fun
  | [d1, d2] => { results := [.lit (.bool true)], args := [d1, d2] }
  | _ => none }
def commandExactRow : OpenClaim := { program := "yteodlgmcniikpaa", sum := "91ac96f6e7ed6d2737d916106c3a45976ebe3ae997c79d152fc1ff78435f4e81", func := "traveldoc/traveldoclaw18.CommandExact", spec := "commandExact", apart := false }
def CommandExactSaid : Prop := commandExactRow.holds Try.pinned (OpenSpec.ofChange commandExactSpec)

/-- ITS FALSE NEIGHBOUR: 'it returns false'. Refute it at one input. -/
def commandExactWrong : ChangeSpec := { name := "commandExact", fn := fun _ => fun
  | [d1, d2] => { results := [.lit (.bool false)], args := [d1, d2] }
  | _ => none }
def CommandExactWrongFalsely : Prop := commandExactRow.holds Try.pinned (OpenSpec.ofChange commandExactWrong)

/-- 'traveldoclaw18.CommandMade': WHATEVER THE INPUT: true; the input reads as it did. -/
def commandMadeSpec : ChangeSpec := { name := "commandMade", fn := fun _ => fun
  | [d] => { results := [.lit (.bool true)], args := [d] }
  | _ => none }
def commandMadeRow : OpenClaim := { program := "yteodlgmcniikpaa", sum := "91ac96f6e7ed6d2737d916106c3a45976ebe3ae997c79d152fc1ff78435f4e81", func := "traveldoc/traveldoclaw18.CommandMade", spec := "commandMade", apart := false }
def CommandMadeSaid : Prop := commandMadeRow.holds Try.pinned (OpenSpec.ofChange commandMadeSpec)

/-- ITS FALSE NEIGHBOUR: 'it returns false'. Refute it at one input. -/
def commandMadeWrong : ChangeSpec := { name := "commandMade", fn := fun _ => fun
  | [d] => { results := [.lit (.bool false)], args := [d] }
  | _ => none }
def CommandMadeWrongFalsely : Prop := commandMadeRow.holds Try.pinned (OpenSpec.ofChange commandMadeWrong)

/-- 'traveldoclaw18.CommandReturns': WHATEVER THE INPUT: true; the input reads as it did. -/
def commandReturnsSpec : ChangeSpec := { name := "commandReturns", fn := fun _ => fun
  | [d] => { results := [.lit (.bool true)], args := [d] }
  | _ => none }
def commandReturnsRow : OpenClaim := { program := "yteodlgmcniikpaa", sum := "91ac96f6e7ed6d2737d916106c3a45976ebe3ae997c79d152fc1ff78435f4e81", func := "traveldoc/traveldoclaw18.CommandReturns", spec := "commandReturns", apart := false }
def CommandReturnsSaid : Prop := commandReturnsRow.holds Try.pinned (OpenSpec.ofChange commandReturnsSpec)

/-- ITS FALSE NEIGHBOUR: 'it returns false'. Refute it at one input. -/
def commandReturnsWrong : ChangeSpec := { name := "commandReturns", fn := fun _ => fun
  | [d] => { results := [.lit (.bool false)], args := [d] }
  | _ => none }
def CommandReturnsWrongFalsely : Prop := commandReturnsRow.holds Try.pinned (OpenSpec.ofChange commandReturnsWrong)

/-- 'traveldoclaw18.CommandResponses': WHATEVER THE INPUT: true; the input reads as it did. -/
def commandResponsesSpec : ChangeSpec := { name := "commandResponses", fn := fun _ => fun
  | [d1, d2, d3] => { results := [.lit (.bool true)], args := [d1, d2, d3] }
  | _ => none }
def commandResponsesRow : OpenClaim := { program := "yteodlgmcniikpaa", sum := "91ac96f6e7ed6d2737d916106c3a45976ebe3ae997c79d152fc1ff78435f4e81", func := "traveldoc/traveldoclaw18.CommandResponses", spec := "commandResponses", apart := false }
def CommandResponsesSaid : Prop := commandResponsesRow.holds Try.pinned (OpenSpec.ofChange commandResponsesSpec)

/-- ITS FALSE NEIGHBOUR: 'it returns false'. Refute it at one input. -/
def commandResponsesWrong : ChangeSpec := { name := "commandResponses", fn := fun _ => fun
  | [d1, d2, d3] => { results := [.lit (.bool false)], args := [d1, d2, d3] }
  | _ => none }
def CommandResponsesWrongFalsely : Prop := commandResponsesRow.holds Try.pinned (OpenSpec.ofChange commandResponsesWrong)

/-- 'traveldoclaw18.CommandChains': WHATEVER THE INPUT: true; the input reads as it did. -/
def commandChainsSpec : ChangeSpec := { name := "commandChains", fn := fun _ => fun
  | [d1, d2, d3] => { results := [.lit (.bool true)], args := [d1, d2, d3] }
  | _ => none }
def commandChainsRow : OpenClaim := { program := "yteodlgmcniikpaa", sum := "91ac96f6e7ed6d2737d916106c3a45976ebe3ae997c79d152fc1ff78435f4e81", func := "traveldoc/traveldoclaw18.CommandChains", spec := "commandChains", apart := false }
def CommandChainsSaid : Prop := commandChainsRow.holds Try.pinned (OpenSpec.ofChange commandChainsSpec)

/-- ITS FALSE NEIGHBOUR: 'it returns false'. Refute it at one input. -/
def commandChainsWrong : ChangeSpec := { name := "commandChains", fn := fun _ => fun
  | [d1, d2, d3] => { results := [.lit (.bool false)], args := [d1, d2, d3] }
  | _ => none }
def CommandChainsWrongFalsely : Prop := commandChainsRow.holds Try.pinned (OpenSpec.ofChange commandChainsWrong)

/-- 'traveldoclaw18.CommandJoins': WHATEVER THE INPUT: true; the input reads as it did. -/
def commandJoinsSpec : ChangeSpec := { name := "commandJoins", fn := fun _ => fun
  | [d1, d2] => { results := [.lit (.bool true)], args := [d1, d2] }
  | _ => none }
def commandJoinsRow : OpenClaim := { program := "yteodlgmcniikpaa", sum := "91ac96f6e7ed6d2737d916106c3a45976ebe3ae997c79d152fc1ff78435f4e81", func := "traveldoc/traveldoclaw18.CommandJoins", spec := "commandJoins", apart := false }
def CommandJoinsSaid : Prop := commandJoinsRow.holds Try.pinned (OpenSpec.ofChange commandJoinsSpec)

/-- ITS FALSE NEIGHBOUR: 'it returns false'. Refute it at one input. -/
def commandJoinsWrong : ChangeSpec := { name := "commandJoins", fn := fun _ => fun
  | [d1, d2] => { results := [.lit (.bool false)], args := [d1, d2] }
  | _ => none }
def CommandJoinsWrongFalsely : Prop := commandJoinsRow.holds Try.pinned (OpenSpec.ofChange commandJoinsWrong)

/- THE SECOND FORM. 'bulk': how many values and letters a reading holds, each counted each time it is reached (what is shared counts as often as it is met; a slice's spare places count too). A statement '..UptoSaid' is the law's where the arguments, and the package variables that the reading takes, are together of bulk at most 1048576: NARROWER than '..Said'. Prove '..Said' where nothing that the law and all that it calls make is longer than what came in: it says more and counts as full. Else prove '..UptoSaid'. A law counts once. -/
mutual
def uptoBulk {H : Type} : DataW H → Nat
  | .lit (.string bytes) => bytes.length + 1
  | .lit _ => 1
  | .nil => 1
  | .ptr d => uptoBulk d + 1
  | .slice elems spare => uptoBulkAll elems + uptoBulkAll spare + 1
  | .agg parts => uptoBulkAll parts + 1
  | .iface _ d => uptoBulk d + 1
  | .map entries => uptoBulkEntries entries + 1
  | .held _ => 1
def uptoBulkAll {H : Type} : List (DataW H) → Nat
  | [] => 0
  | d :: r => uptoBulk d + uptoBulkAll r
def uptoBulkEntries {H : Type} : List (Lit × DataW H) → Nat
  | [] => 0
  | x :: r => uptoBulkEntry x + uptoBulkEntries r
def uptoBulkEntry {H : Type} : Lit × DataW H → Nat
  | (.string bytes, d) => bytes.length + uptoBulk d + 1
  | (_, d) => uptoBulk d + 1
 end
def uptoSmall : (H : Type) → List (DataW H) → Bool := fun _ ds => decide (uptoBulkAll ds ≤ 1048576)
def OpenSpec.upto (s : _root_.Go.ChangeSpec) : _root_.Go.OpenSpec := { _root_.Go.OpenSpec.ofChange s with cond := some uptoSmall }

/-- 'traveldoclaw18.CommandExact', WHERE WHAT IT READS IS OF BULK AT MOST 1048576: true; the input reads as it did. -/
def commandExactUptoRow : OpenClaim := { program := "yteodlgmcniikpaa", sum := "91ac96f6e7ed6d2737d916106c3a45976ebe3ae997c79d152fc1ff78435f4e81", func := "traveldoc/traveldoclaw18.CommandExact", spec := "commandExact", apart := false, narrowed := true }
def CommandExactUptoSaid : Prop := commandExactUptoRow.holds Try.pinned (OpenSpec.upto commandExactSpec)

/-- 'traveldoclaw18.CommandMade', WHERE WHAT IT READS IS OF BULK AT MOST 1048576: true; the input reads as it did. -/
def commandMadeUptoRow : OpenClaim := { program := "yteodlgmcniikpaa", sum := "91ac96f6e7ed6d2737d916106c3a45976ebe3ae997c79d152fc1ff78435f4e81", func := "traveldoc/traveldoclaw18.CommandMade", spec := "commandMade", apart := false, narrowed := true }
def CommandMadeUptoSaid : Prop := commandMadeUptoRow.holds Try.pinned (OpenSpec.upto commandMadeSpec)

/-- 'traveldoclaw18.CommandReturns', WHERE WHAT IT READS IS OF BULK AT MOST 1048576: true; the input reads as it did. -/
def commandReturnsUptoRow : OpenClaim := { program := "yteodlgmcniikpaa", sum := "91ac96f6e7ed6d2737d916106c3a45976ebe3ae997c79d152fc1ff78435f4e81", func := "traveldoc/traveldoclaw18.CommandReturns", spec := "commandReturns", apart := false, narrowed := true }
def CommandReturnsUptoSaid : Prop := commandReturnsUptoRow.holds Try.pinned (OpenSpec.upto commandReturnsSpec)

/-- 'traveldoclaw18.CommandResponses', WHERE WHAT IT READS IS OF BULK AT MOST 1048576: true; the input reads as it did. -/
def commandResponsesUptoRow : OpenClaim := { program := "yteodlgmcniikpaa", sum := "91ac96f6e7ed6d2737d916106c3a45976ebe3ae997c79d152fc1ff78435f4e81", func := "traveldoc/traveldoclaw18.CommandResponses", spec := "commandResponses", apart := false, narrowed := true }
def CommandResponsesUptoSaid : Prop := commandResponsesUptoRow.holds Try.pinned (OpenSpec.upto commandResponsesSpec)

/-- 'traveldoclaw18.CommandChains', WHERE WHAT IT READS IS OF BULK AT MOST 1048576: true; the input reads as it did. -/
def commandChainsUptoRow : OpenClaim := { program := "yteodlgmcniikpaa", sum := "91ac96f6e7ed6d2737d916106c3a45976ebe3ae997c79d152fc1ff78435f4e81", func := "traveldoc/traveldoclaw18.CommandChains", spec := "commandChains", apart := false, narrowed := true }
def CommandChainsUptoSaid : Prop := commandChainsUptoRow.holds Try.pinned (OpenSpec.upto commandChainsSpec)

/-- 'traveldoclaw18.CommandJoins', WHERE WHAT IT READS IS OF BULK AT MOST 1048576: true; the input reads as it did. -/
def commandJoinsUptoRow : OpenClaim := { program := "yteodlgmcniikpaa", sum := "91ac96f6e7ed6d2737d916106c3a45976ebe3ae997c79d152fc1ff78435f4e81", func := "traveldoc/traveldoclaw18.CommandJoins", spec := "commandJoins", apart := false, narrowed := true }
def CommandJoinsUptoSaid : Prop := commandJoinsUptoRow.holds Try.pinned (OpenSpec.upto commandJoinsSpec)

end Rows
end Go.Proofs.Yteodlgmcniikpaa
