/-
  DERIVED. GIVEN WITH THE SEED: THE CARDS: each row of YtgmmdijmlnehlaaDoorRows.lean that lists a variable, with what it lists TIED to the program's text (the seventh form; the later family's looks); each row that meets fmt, with fmt's text TOLD by the authors' own Lean function (tested against real Go, not proved from fmt's source: count such statements apart). THE CARD IS WHAT COUNTS. Prove the row's statement (the work); the ties are given (YtgmmdijmlnehlaaDoorTie.lean); close each card by the builder's one call (the guide's Derived/Test/ToyasCard.lean, 'card_holds'). Laid BY PROGRAM, IN A SANDBOX (cutbox-door.mjs). By AI agents, Wed Nov 11 2026. No macro, syntax, notation, axiom, sorry.
-/
import Derived.Test.YtgmmdijmlnehlaaDoorRows
import GoSem.ClaimSeven
namespace Go.Proofs.YtgmmdijmlnehlaaDoor
namespace Rows

/-- THE TIED CARD OF 'traveldoclaw25.ChipdateValid'. -/
def chipdateValidCard : Claim7 := { stood := { row := chipdateValidRow, standIns := [], harness := (true, "a63aca520272623199dbd65984cc633f5b426bd2e9f50de6f878142867f5a4e7"), looks := false }, kinds := [], alts := [], laidByText := true, laidKinds := [.data], laidTests := true, laidLooks := .later }
def ChipdateValidCardSaid : Prop := Claim7.holds Tryd.pinned (.plain (OpenSpec.ofChange chipdateValidSpec)) chipdateValidCard

/-- THE TIED CARD OF 'traveldoclaw25.ChipdateBytes'. -/
def chipdateBytesCard : Claim7 := { stood := { row := chipdateBytesRow, standIns := [], harness := (true, "a63aca520272623199dbd65984cc633f5b426bd2e9f50de6f878142867f5a4e7"), looks := false }, kinds := [], alts := [], laidByText := true, laidKinds := [.data], laidTests := true, laidLooks := .later }
def ChipdateBytesCardSaid : Prop := Claim7.holds Tryd.pinned (.plain (OpenSpec.ofChange chipdateBytesSpec)) chipdateBytesCard

/-- THE TIED CARD OF 'traveldoclaw25.ChipdateDecodes'. -/
def chipdateDecodesCard : Claim7 := { stood := { row := chipdateDecodesRow, standIns := [], harness := (true, "a63aca520272623199dbd65984cc633f5b426bd2e9f50de6f878142867f5a4e7"), looks := false }, kinds := [], alts := [], laidByText := true, laidKinds := [.data], laidTests := true, laidLooks := .later }
def ChipdateDecodesCardSaid : Prop := Claim7.holds Tryd.pinned (.plain (OpenSpec.ofChange chipdateDecodesSpec)) chipdateDecodesCard

/-- THE TIED CARD OF 'traveldoclaw25.ChipdateBack'. -/
def chipdateBackCard : Claim7 := { stood := { row := chipdateBackRow, standIns := [], harness := (true, "a63aca520272623199dbd65984cc633f5b426bd2e9f50de6f878142867f5a4e7"), looks := false }, kinds := [], alts := [], laidByText := true, laidKinds := [.data], laidTests := true, laidLooks := .later }
def ChipdateBackCardSaid : Prop := Claim7.holds Tryd.pinned (.plain (OpenSpec.ofChange chipdateBackSpec)) chipdateBackCard

/-- THE TIED CARD OF 'traveldoclaw25.ChipdateLearns'. -/
def chipdateLearnsCard : Claim7 := { stood := { row := chipdateLearnsRow, standIns := [], harness := (true, "a63aca520272623199dbd65984cc633f5b426bd2e9f50de6f878142867f5a4e7"), looks := false }, kinds := [], alts := [], laidByText := true, laidKinds := [.data], laidTests := true, laidLooks := .later }
def ChipdateLearnsCardSaid : Prop := Claim7.holds Tryd.pinned (.plain (OpenSpec.ofChange chipdateLearnsSpec)) chipdateLearnsCard

/-- THE TIED CARD OF 'traveldoclaw25.ChipdateNever'. -/
def chipdateNeverCard : Claim7 := { stood := { row := chipdateNeverRow, standIns := [], harness := (true, "a63aca520272623199dbd65984cc633f5b426bd2e9f50de6f878142867f5a4e7"), looks := false }, kinds := [], alts := [], laidByText := true, laidKinds := [.data], laidTests := true, laidLooks := .later }
def ChipdateNeverCardSaid : Prop := Claim7.holds Tryd.pinned (.plain (OpenSpec.ofChange chipdateNeverSpec)) chipdateNeverCard

/-- THE SECOND FORM's CARD OF 'traveldoclaw25.ChipdateValid'. -/
def chipdateValidUptoCard : Claim7 := { stood := { row := chipdateValidUptoRow, standIns := [], harness := (true, "a63aca520272623199dbd65984cc633f5b426bd2e9f50de6f878142867f5a4e7"), looks := false }, kinds := [], alts := [], laidByText := true, laidKinds := [.data], laidTests := true, laidLooks := .later }
def ChipdateValidUptoCardSaid : Prop := Claim7.holds Tryd.pinned (.plain (OpenSpec.upto chipdateValidSpec)) chipdateValidUptoCard

/-- THE SECOND FORM's CARD OF 'traveldoclaw25.ChipdateBytes'. -/
def chipdateBytesUptoCard : Claim7 := { stood := { row := chipdateBytesUptoRow, standIns := [], harness := (true, "a63aca520272623199dbd65984cc633f5b426bd2e9f50de6f878142867f5a4e7"), looks := false }, kinds := [], alts := [], laidByText := true, laidKinds := [.data], laidTests := true, laidLooks := .later }
def ChipdateBytesUptoCardSaid : Prop := Claim7.holds Tryd.pinned (.plain (OpenSpec.upto chipdateBytesSpec)) chipdateBytesUptoCard

/-- THE SECOND FORM's CARD OF 'traveldoclaw25.ChipdateDecodes'. -/
def chipdateDecodesUptoCard : Claim7 := { stood := { row := chipdateDecodesUptoRow, standIns := [], harness := (true, "a63aca520272623199dbd65984cc633f5b426bd2e9f50de6f878142867f5a4e7"), looks := false }, kinds := [], alts := [], laidByText := true, laidKinds := [.data], laidTests := true, laidLooks := .later }
def ChipdateDecodesUptoCardSaid : Prop := Claim7.holds Tryd.pinned (.plain (OpenSpec.upto chipdateDecodesSpec)) chipdateDecodesUptoCard

/-- THE SECOND FORM's CARD OF 'traveldoclaw25.ChipdateBack'. -/
def chipdateBackUptoCard : Claim7 := { stood := { row := chipdateBackUptoRow, standIns := [], harness := (true, "a63aca520272623199dbd65984cc633f5b426bd2e9f50de6f878142867f5a4e7"), looks := false }, kinds := [], alts := [], laidByText := true, laidKinds := [.data], laidTests := true, laidLooks := .later }
def ChipdateBackUptoCardSaid : Prop := Claim7.holds Tryd.pinned (.plain (OpenSpec.upto chipdateBackSpec)) chipdateBackUptoCard

/-- THE SECOND FORM's CARD OF 'traveldoclaw25.ChipdateLearns'. -/
def chipdateLearnsUptoCard : Claim7 := { stood := { row := chipdateLearnsUptoRow, standIns := [], harness := (true, "a63aca520272623199dbd65984cc633f5b426bd2e9f50de6f878142867f5a4e7"), looks := false }, kinds := [], alts := [], laidByText := true, laidKinds := [.data], laidTests := true, laidLooks := .later }
def ChipdateLearnsUptoCardSaid : Prop := Claim7.holds Tryd.pinned (.plain (OpenSpec.upto chipdateLearnsSpec)) chipdateLearnsUptoCard

/-- THE SECOND FORM's CARD OF 'traveldoclaw25.ChipdateNever'. -/
def chipdateNeverUptoCard : Claim7 := { stood := { row := chipdateNeverUptoRow, standIns := [], harness := (true, "a63aca520272623199dbd65984cc633f5b426bd2e9f50de6f878142867f5a4e7"), looks := false }, kinds := [], alts := [], laidByText := true, laidKinds := [.data], laidTests := true, laidLooks := .later }
def ChipdateNeverUptoCardSaid : Prop := Claim7.holds Tryd.pinned (.plain (OpenSpec.upto chipdateNeverSpec)) chipdateNeverUptoCard
end Rows
end Go.Proofs.YtgmmdijmlnehlaaDoor
