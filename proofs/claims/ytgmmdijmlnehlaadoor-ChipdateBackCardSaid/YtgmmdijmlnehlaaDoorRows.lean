/-
  NARROWER THAN 'FOR EVERY INPUT', by the rows' own cells (each row's printed sentence says how): ChipdateValid: laid · ChipdateBytes: laid · ChipdateDecodes: laid · ChipdateBack: laid · ChipdateLearns: laid · ChipdateNever: laid.
  DERIVED. THE GIVEN ROWS OF THIS SEAT. 6 by the template 'for every input the law returns true; each argument reads behind the call as it read before'; 0 by the template 'total and deterministic' (their statements: YtgmmdijmlnehlaaDoorTotals.lean).
  GIVEN WITH THE SEED: the statements are not yours to turn. If you find one false, say at which input.
  Laid BY PROGRAM, IN A SANDBOX (cutbox-rows.mjs): the forced cells as the released guide's own fill.sh prints them over the translation aec6a03869bdb611… (all of the seat's roots in one cut). By AI agents, Wed Nov 11 2026. No macro, syntax, notation, axiom, sorry.
-/
import Derived.Test.YtgmmdijmlnehlaaDoorChecked
import GoSem.Claim
import GoSem.ClaimJoined
import GoSem.ClaimMapViews
import Derived.JoinedTies
import Derived.KernelRfl
namespace Go.Proofs.YtgmmdijmlnehlaaDoor
/- THE CELL 'sum', in the pinned program and in every row, IS THE sha256 OF THE DUMP (.gsa) THAT YtgmmdijmlnehlaaDoorProg.lean LOADS. Nothing in Lean hashes anything: it is a label: what it is worth is what the hold of that sum in a sandbox is worth. -/
noncomputable def Tryd.pinned : Pinned := { name := "ytgmmdijmlnehlaadoor", sum := "aec6a03869bdb6110cbfe8c730b2692eef9361c075319b382a89b03908fd7e7f", checked := Tryd.checked }
namespace Rows
def none {H : Type} : Left H := { results := [], args := [] }

/- WHAT THE LISTED PACKAGE-LEVEL VARIABLES READ AS WHEN THE CALL BEGINS. Each datum BY PROGRAM (the guide's laid-datum.mjs) off the statement by which the dump's own 'gosem.cut.vars' lays the variable. In a bare row this is a premise. The card (YtgmmdijmlnehlaaDoorCards.lean) ties it to the program's text. -/
def laid_traveldoc_traveldocref04_constants {H : Type} : DataW H := .agg [.lit (.int .u32 1116352408), .lit (.int .u32 1899447441), .lit (.int .u32 3049323471), .lit (.int .u32 3921009573), .lit (.int .u32 961987163), .lit (.int .u32 1508970993), .lit (.int .u32 2453635748), .lit (.int .u32 2870763221), .lit (.int .u32 3624381080), .lit (.int .u32 310598401), .lit (.int .u32 607225278), .lit (.int .u32 1426881987), .lit (.int .u32 1925078388), .lit (.int .u32 2162078206), .lit (.int .u32 2614888103), .lit (.int .u32 3248222580), .lit (.int .u32 3835390401), .lit (.int .u32 4022224774), .lit (.int .u32 264347078), .lit (.int .u32 604807628), .lit (.int .u32 770255983), .lit (.int .u32 1249150122), .lit (.int .u32 1555081692), .lit (.int .u32 1996064986), .lit (.int .u32 2554220882), .lit (.int .u32 2821834349), .lit (.int .u32 2952996808), .lit (.int .u32 3210313671), .lit (.int .u32 3336571891), .lit (.int .u32 3584528711), .lit (.int .u32 113926993), .lit (.int .u32 338241895), .lit (.int .u32 666307205), .lit (.int .u32 773529912), .lit (.int .u32 1294757372), .lit (.int .u32 1396182291), .lit (.int .u32 1695183700), .lit (.int .u32 1986661051), .lit (.int .u32 2177026350), .lit (.int .u32 2456956037), .lit (.int .u32 2730485921), .lit (.int .u32 2820302411), .lit (.int .u32 3259730800), .lit (.int .u32 3345764771), .lit (.int .u32 3516065817), .lit (.int .u32 3600352804), .lit (.int .u32 4094571909), .lit (.int .u32 275423344), .lit (.int .u32 430227734), .lit (.int .u32 506948616), .lit (.int .u32 659060556), .lit (.int .u32 883997877), .lit (.int .u32 958139571), .lit (.int .u32 1322822218), .lit (.int .u32 1537002063), .lit (.int .u32 1747873779), .lit (.int .u32 1955562222), .lit (.int .u32 2024104815), .lit (.int .u32 2227730452), .lit (.int .u32 2361852424), .lit (.int .u32 2428436474), .lit (.int .u32 2756734187), .lit (.int .u32 3204031479), .lit (.int .u32 3329325298)]

/-- 'traveldoclaw25.ChipdateValid': WHATEVER THE INPUT: true; the input reads as it did. -/
def chipdateValidSpec : ChangeSpec := { name := "chipdateValid", fn := fun _ => fun
  | [d] => { results := [.lit (.bool true)], args := [d] }
  | _ => none }
def chipdateValidRow : OpenClaim := { program := "ytgmmdijmlnehlaadoor", sum := "aec6a03869bdb6110cbfe8c730b2692eef9361c075319b382a89b03908fd7e7f", func := "traveldoc/traveldoclaw25.ChipdateValid", spec := "chipdateValid", unfollowed := true, recurses := true, named := ["traveldoc/traveldocref04.constants"], apart := false, laid := [("traveldoc/traveldocref04.constants", laid_traveldoc_traveldocref04_constants)] }
def ChipdateValidSaid : Prop := chipdateValidRow.holds Tryd.pinned (OpenSpec.ofChange chipdateValidSpec)

/-- ITS FALSE NEIGHBOUR: 'it returns false'. Refute it at one input. -/
def chipdateValidWrong : ChangeSpec := { name := "chipdateValid", fn := fun _ => fun
  | [d] => { results := [.lit (.bool false)], args := [d] }
  | _ => none }
def ChipdateValidWrongFalsely : Prop := chipdateValidRow.holds Tryd.pinned (OpenSpec.ofChange chipdateValidWrong)

/-- 'traveldoclaw25.ChipdateBytes': WHATEVER THE INPUT: true; the input reads as it did. -/
def chipdateBytesSpec : ChangeSpec := { name := "chipdateBytes", fn := fun _ => fun
  | [d] => { results := [.lit (.bool true)], args := [d] }
  | _ => none }
def chipdateBytesRow : OpenClaim := { program := "ytgmmdijmlnehlaadoor", sum := "aec6a03869bdb6110cbfe8c730b2692eef9361c075319b382a89b03908fd7e7f", func := "traveldoc/traveldoclaw25.ChipdateBytes", spec := "chipdateBytes", unfollowed := true, recurses := true, named := ["traveldoc/traveldocref04.constants"], apart := false, laid := [("traveldoc/traveldocref04.constants", laid_traveldoc_traveldocref04_constants)] }
def ChipdateBytesSaid : Prop := chipdateBytesRow.holds Tryd.pinned (OpenSpec.ofChange chipdateBytesSpec)

/-- ITS FALSE NEIGHBOUR: 'it returns false'. Refute it at one input. -/
def chipdateBytesWrong : ChangeSpec := { name := "chipdateBytes", fn := fun _ => fun
  | [d] => { results := [.lit (.bool false)], args := [d] }
  | _ => none }
def ChipdateBytesWrongFalsely : Prop := chipdateBytesRow.holds Tryd.pinned (OpenSpec.ofChange chipdateBytesWrong)

/-- 'traveldoclaw25.ChipdateDecodes': WHATEVER THE INPUT: true; the input reads as it did. -/
def chipdateDecodesSpec : ChangeSpec := { name := "chipdateDecodes", fn := fun _ => fun
  | [d] => { results := [.lit (.bool true)], args := [d] }
  | _ => none }
def chipdateDecodesRow : OpenClaim := { program := "ytgmmdijmlnehlaadoor", sum := "aec6a03869bdb6110cbfe8c730b2692eef9361c075319b382a89b03908fd7e7f", func := "traveldoc/traveldoclaw25.ChipdateDecodes", spec := "chipdateDecodes", unfollowed := true, recurses := true, named := ["traveldoc/traveldocref04.constants"], apart := false, laid := [("traveldoc/traveldocref04.constants", laid_traveldoc_traveldocref04_constants)] }
def ChipdateDecodesSaid : Prop := chipdateDecodesRow.holds Tryd.pinned (OpenSpec.ofChange chipdateDecodesSpec)

/-- ITS FALSE NEIGHBOUR: 'it returns false'. Refute it at one input. -/
def chipdateDecodesWrong : ChangeSpec := { name := "chipdateDecodes", fn := fun _ => fun
  | [d] => { results := [.lit (.bool false)], args := [d] }
  | _ => none }
def ChipdateDecodesWrongFalsely : Prop := chipdateDecodesRow.holds Tryd.pinned (OpenSpec.ofChange chipdateDecodesWrong)

/-- 'traveldoclaw25.ChipdateBack': WHATEVER THE INPUT: true; the input reads as it did. -/
def chipdateBackSpec : ChangeSpec := { name := "chipdateBack", fn := fun _ => fun
  | [d] => { results := [.lit (.bool true)], args := [d] }
  | _ => none }
def chipdateBackRow : OpenClaim := { program := "ytgmmdijmlnehlaadoor", sum := "aec6a03869bdb6110cbfe8c730b2692eef9361c075319b382a89b03908fd7e7f", func := "traveldoc/traveldoclaw25.ChipdateBack", spec := "chipdateBack", unfollowed := true, recurses := true, named := ["traveldoc/traveldocref04.constants"], apart := false, laid := [("traveldoc/traveldocref04.constants", laid_traveldoc_traveldocref04_constants)] }
def ChipdateBackSaid : Prop := chipdateBackRow.holds Tryd.pinned (OpenSpec.ofChange chipdateBackSpec)

/-- ITS FALSE NEIGHBOUR: 'it returns false'. Refute it at one input. -/
def chipdateBackWrong : ChangeSpec := { name := "chipdateBack", fn := fun _ => fun
  | [d] => { results := [.lit (.bool false)], args := [d] }
  | _ => none }
def ChipdateBackWrongFalsely : Prop := chipdateBackRow.holds Tryd.pinned (OpenSpec.ofChange chipdateBackWrong)

/-- 'traveldoclaw25.ChipdateLearns': WHATEVER THE INPUT: true; the input reads as it did. -/
def chipdateLearnsSpec : ChangeSpec := { name := "chipdateLearns", fn := fun _ => fun
  | [d1, d2, d3] => { results := [.lit (.bool true)], args := [d1, d2, d3] }
  | _ => none }
def chipdateLearnsRow : OpenClaim := { program := "ytgmmdijmlnehlaadoor", sum := "aec6a03869bdb6110cbfe8c730b2692eef9361c075319b382a89b03908fd7e7f", func := "traveldoc/traveldoclaw25.ChipdateLearns", spec := "chipdateLearns", unfollowed := true, recurses := true, named := ["traveldoc/traveldocref04.constants"], apart := false, laid := [("traveldoc/traveldocref04.constants", laid_traveldoc_traveldocref04_constants)] }
def ChipdateLearnsSaid : Prop := chipdateLearnsRow.holds Tryd.pinned (OpenSpec.ofChange chipdateLearnsSpec)

/-- ITS FALSE NEIGHBOUR: 'it returns false'. Refute it at one input. -/
def chipdateLearnsWrong : ChangeSpec := { name := "chipdateLearns", fn := fun _ => fun
  | [d1, d2, d3] => { results := [.lit (.bool false)], args := [d1, d2, d3] }
  | _ => none }
def ChipdateLearnsWrongFalsely : Prop := chipdateLearnsRow.holds Tryd.pinned (OpenSpec.ofChange chipdateLearnsWrong)

/-- 'traveldoclaw25.ChipdateNever': WHATEVER THE INPUT: true; the input reads as it did. -/
def chipdateNeverSpec : ChangeSpec := { name := "chipdateNever", fn := fun _ => fun
  | [d1, d2, d3, d4, d5, d6, d7] => { results := [.lit (.bool true)], args := [d1, d2, d3, d4, d5, d6, d7] }
  | _ => none }
def chipdateNeverRow : OpenClaim := { program := "ytgmmdijmlnehlaadoor", sum := "aec6a03869bdb6110cbfe8c730b2692eef9361c075319b382a89b03908fd7e7f", func := "traveldoc/traveldoclaw25.ChipdateNever", spec := "chipdateNever", unfollowed := true, recurses := true, named := ["traveldoc/traveldocref04.constants"], apart := false, laid := [("traveldoc/traveldocref04.constants", laid_traveldoc_traveldocref04_constants)] }
def ChipdateNeverSaid : Prop := chipdateNeverRow.holds Tryd.pinned (OpenSpec.ofChange chipdateNeverSpec)

/-- ITS FALSE NEIGHBOUR: 'it returns false'. Refute it at one input. -/
def chipdateNeverWrong : ChangeSpec := { name := "chipdateNever", fn := fun _ => fun
  | [d1, d2, d3, d4, d5, d6, d7] => { results := [.lit (.bool false)], args := [d1, d2, d3, d4, d5, d6, d7] }
  | _ => none }
def ChipdateNeverWrongFalsely : Prop := chipdateNeverRow.holds Tryd.pinned (OpenSpec.ofChange chipdateNeverWrong)

/- THE SECOND FORM. 'bulk': how many values and letters a reading holds, each counted each time it is reached (what is shared counts as often as it is met; a slice's spare places count too). A statement '..UptoSaid' is the law's where the arguments, and the package variables that the reading takes, are together of bulk at most 1048576: NARROWER than '..Said'. Prove '..Said' where nothing that the law and all that it calls make is longer than what came in: it says more and counts as full. Else prove '..UptoSaid'. A law counts once. -/
mutual
def uptoBulk {H : Type} : DataW H → Nat
  | .lit (.string bytes) => bytes.length + 1
  | .lit _ => 1
  | .nil => 1
  | .ptr d => uptoBulk d + 1
  | .slice elems spare => uptoBulkAll elems + uptoBulkAll spare + 1
  | .agg parts => uptoBulkAll parts + 1
  | .iface _ d => uptoBulk d + 1
  | .map entries => uptoBulkEntries entries + 1
  | .held _ => 1
def uptoBulkAll {H : Type} : List (DataW H) → Nat
  | [] => 0
  | d :: r => uptoBulk d + uptoBulkAll r
def uptoBulkEntries {H : Type} : List (Lit × DataW H) → Nat
  | [] => 0
  | x :: r => uptoBulkEntry x + uptoBulkEntries r
def uptoBulkEntry {H : Type} : Lit × DataW H → Nat
  | (.string bytes, d) => bytes.length + uptoBulk d + 1
  | (_, d) => uptoBulk d + 1
 end
def uptoSmall : (H : Type) → List (DataW H) → Bool := fun _ ds => decide (uptoBulkAll ds ≤ 1048576)
def OpenSpec.upto (s : _root_.Go.ChangeSpec) : _root_.Go.OpenSpec := { _root_.Go.OpenSpec.ofChange s with cond := some uptoSmall }

/-- 'traveldoclaw25.ChipdateValid', WHERE WHAT IT READS IS OF BULK AT MOST 1048576: true; the input reads as it did. -/
def chipdateValidUptoRow : OpenClaim := { program := "ytgmmdijmlnehlaadoor", sum := "aec6a03869bdb6110cbfe8c730b2692eef9361c075319b382a89b03908fd7e7f", func := "traveldoc/traveldoclaw25.ChipdateValid", spec := "chipdateValid", unfollowed := true, recurses := true, named := ["traveldoc/traveldocref04.constants"], apart := false, laid := [("traveldoc/traveldocref04.constants", laid_traveldoc_traveldocref04_constants)], narrowed := true }
def ChipdateValidUptoSaid : Prop := chipdateValidUptoRow.holds Tryd.pinned (OpenSpec.upto chipdateValidSpec)

/-- 'traveldoclaw25.ChipdateBytes', WHERE WHAT IT READS IS OF BULK AT MOST 1048576: true; the input reads as it did. -/
def chipdateBytesUptoRow : OpenClaim := { program := "ytgmmdijmlnehlaadoor", sum := "aec6a03869bdb6110cbfe8c730b2692eef9361c075319b382a89b03908fd7e7f", func := "traveldoc/traveldoclaw25.ChipdateBytes", spec := "chipdateBytes", unfollowed := true, recurses := true, named := ["traveldoc/traveldocref04.constants"], apart := false, laid := [("traveldoc/traveldocref04.constants", laid_traveldoc_traveldocref04_constants)], narrowed := true }
def ChipdateBytesUptoSaid : Prop := chipdateBytesUptoRow.holds Tryd.pinned (OpenSpec.upto chipdateBytesSpec)

/-- 'traveldoclaw25.ChipdateDecodes', WHERE WHAT IT READS IS OF BULK AT MOST 1048576: true; the input reads as it did. -/
def chipdateDecodesUptoRow : OpenClaim := { program := "ytgmmdijmlnehlaadoor", sum := "aec6a03869bdb6110cbfe8c730b2692eef9361c075319b382a89b03908fd7e7f", func := "traveldoc/traveldoclaw25.ChipdateDecodes", spec := "chipdateDecodes", unfollowed := true, recurses := true, named := ["traveldoc/traveldocref04.constants"], apart := false, laid := [("traveldoc/traveldocref04.constants", laid_traveldoc_traveldocref04_constants)], narrowed := true }
def ChipdateDecodesUptoSaid : Prop := chipdateDecodesUptoRow.holds Tryd.pinned (OpenSpec.upto chipdateDecodesSpec)

/-- 'traveldoclaw25.ChipdateBack', WHERE WHAT IT READS IS OF BULK AT MOST 1048576: true; the input reads as it did. -/
def chipdateBackUptoRow : OpenClaim := { program := "ytgmmdijmlnehlaadoor", sum := "aec6a03869bdb6110cbfe8c730b2692eef9361c075319b382a89b03908fd7e7f", func := "traveldoc/traveldoclaw25.ChipdateBack", spec := "chipdateBack", unfollowed := true, recurses := true, named := ["traveldoc/traveldocref04.constants"], apart := false, laid := [("traveldoc/traveldocref04.constants", laid_traveldoc_traveldocref04_constants)], narrowed := true }
def ChipdateBackUptoSaid : Prop := chipdateBackUptoRow.holds Tryd.pinned (OpenSpec.upto chipdateBackSpec)

/-- 'traveldoclaw25.ChipdateLearns', WHERE WHAT IT READS IS OF BULK AT MOST 1048576: true; the input reads as it did. -/
def chipdateLearnsUptoRow : OpenClaim := { program := "ytgmmdijmlnehlaadoor", sum := "aec6a03869bdb6110cbfe8c730b2692eef9361c075319b382a89b03908fd7e7f", func := "traveldoc/traveldoclaw25.ChipdateLearns", spec := "chipdateLearns", unfollowed := true, recurses := true, named := ["traveldoc/traveldocref04.constants"], apart := false, laid := [("traveldoc/traveldocref04.constants", laid_traveldoc_traveldocref04_constants)], narrowed := true }
def ChipdateLearnsUptoSaid : Prop := chipdateLearnsUptoRow.holds Tryd.pinned (OpenSpec.upto chipdateLearnsSpec)

/-- 'traveldoclaw25.ChipdateNever', WHERE WHAT IT READS IS OF BULK AT MOST 1048576: true; the input reads as it did. -/
def chipdateNeverUptoRow : OpenClaim := { program := "ytgmmdijmlnehlaadoor", sum := "aec6a03869bdb6110cbfe8c730b2692eef9361c075319b382a89b03908fd7e7f", func := "traveldoc/traveldoclaw25.ChipdateNever", spec := "chipdateNever", unfollowed := true, recurses := true, named := ["traveldoc/traveldocref04.constants"], apart := false, laid := [("traveldoc/traveldocref04.constants", laid_traveldoc_traveldocref04_constants)], narrowed := true }
def ChipdateNeverUptoSaid : Prop := chipdateNeverUptoRow.holds Tryd.pinned (OpenSpec.upto chipdateNeverSpec)

end Rows
end Go.Proofs.YtgmmdijmlnehlaaDoor
