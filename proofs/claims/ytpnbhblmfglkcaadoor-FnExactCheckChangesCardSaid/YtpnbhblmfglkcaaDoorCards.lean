/-
  DERIVED. GIVEN WITH THE SEED: THE CARDS: each row of YtpnbhblmfglkcaaDoorRows.lean that lists a variable, with what it lists TIED to the program's text (the seventh form; the later family's looks); each row that meets fmt, with fmt's text TOLD by the authors' own Lean function (tested against real Go, not proved from fmt's source: count such statements apart). THE CARD IS WHAT COUNTS. Prove the row's statement (the work); the ties are given (YtpnbhblmfglkcaaDoorTie.lean); close each card by the builder's one call (the guide's Derived/Test/ToyasCard.lean, 'card_holds'). Laid BY PROGRAM, IN A SANDBOX (cutbox-door.mjs). By AI agents, Wed Nov 11 2026. No macro, syntax, notation, axiom, sorry.
-/
import Derived.Test.YtpnbhblmfglkcaaDoorRows
import GoSem.ClaimSeven
namespace Go.Proofs.YtpnbhblmfglkcaaDoor
namespace Rows

/-- THE TIED CARD OF 'laws.FnExactCheckChanges'. -/
def fnExactCheckChangesCard : Claim7 := { stood := { row := fnExactCheckChangesRow, standIns := [], harness := (true, "18fc3e1b83e81db8fefe6a2eb56e50ac5a7b7a2ef0ba81b7bc44f34fada4a4f9"), looks := false }, kinds := [], alts := [], laidByText := true, laidKinds := [.mapped], laidTests := true, laidLooks := .later }
def FnExactCheckChangesCardSaid : Prop := Claim7.holds Tryd.pinned (.plain (OpenSpec.ofChange fnExactCheckChangesSpec)) fnExactCheckChangesCard

/-- THE TIED CARD OF 'laws.FnExactCheckProof'. -/
def fnExactCheckProofCard : Claim7 := { stood := { row := fnExactCheckProofRow, standIns := [], harness := (true, "18fc3e1b83e81db8fefe6a2eb56e50ac5a7b7a2ef0ba81b7bc44f34fada4a4f9"), looks := false }, kinds := [], alts := [], laidByText := true, laidKinds := [.mapped], laidTests := true, laidLooks := .later }
def FnExactCheckProofCardSaid : Prop := Claim7.holds Tryd.pinned (.plain (OpenSpec.ofChange fnExactCheckProofSpec)) fnExactCheckProofCard

/-- THE TIED CARD OF 'laws.FnExactSplitTransfer'. -/
def fnExactSplitTransferCard : Claim7 := { stood := { row := fnExactSplitTransferRow, standIns := [], harness := (true, "18fc3e1b83e81db8fefe6a2eb56e50ac5a7b7a2ef0ba81b7bc44f34fada4a4f9"), looks := false }, kinds := [], alts := [], laidByText := true, laidKinds := [.mapped], laidTests := true, laidLooks := .later }
def FnExactSplitTransferCardSaid : Prop := Claim7.holds Tryd.pinned (.plain (OpenSpec.ofChange fnExactSplitTransferSpec)) fnExactSplitTransferCard

/-- THE SECOND FORM's CARD OF 'laws.FnExactCheckChanges'. -/
def fnExactCheckChangesUptoCard : Claim7 := { stood := { row := fnExactCheckChangesUptoRow, standIns := [], harness := (true, "18fc3e1b83e81db8fefe6a2eb56e50ac5a7b7a2ef0ba81b7bc44f34fada4a4f9"), looks := false }, kinds := [], alts := [], laidByText := true, laidKinds := [.mapped], laidTests := true, laidLooks := .later }
def FnExactCheckChangesUptoCardSaid : Prop := Claim7.holds Tryd.pinned (.plain (OpenSpec.upto fnExactCheckChangesSpec)) fnExactCheckChangesUptoCard

/-- THE SECOND FORM's CARD OF 'laws.FnExactCheckProof'. -/
def fnExactCheckProofUptoCard : Claim7 := { stood := { row := fnExactCheckProofUptoRow, standIns := [], harness := (true, "18fc3e1b83e81db8fefe6a2eb56e50ac5a7b7a2ef0ba81b7bc44f34fada4a4f9"), looks := false }, kinds := [], alts := [], laidByText := true, laidKinds := [.mapped], laidTests := true, laidLooks := .later }
def FnExactCheckProofUptoCardSaid : Prop := Claim7.holds Tryd.pinned (.plain (OpenSpec.upto fnExactCheckProofSpec)) fnExactCheckProofUptoCard

/-- THE SECOND FORM's CARD OF 'laws.FnExactSplitTransfer'. -/
def fnExactSplitTransferUptoCard : Claim7 := { stood := { row := fnExactSplitTransferUptoRow, standIns := [], harness := (true, "18fc3e1b83e81db8fefe6a2eb56e50ac5a7b7a2ef0ba81b7bc44f34fada4a4f9"), looks := false }, kinds := [], alts := [], laidByText := true, laidKinds := [.mapped], laidTests := true, laidLooks := .later }
def FnExactSplitTransferUptoCardSaid : Prop := Claim7.holds Tryd.pinned (.plain (OpenSpec.upto fnExactSplitTransferSpec)) fnExactSplitTransferUptoCard
end Rows
end Go.Proofs.YtpnbhblmfglkcaaDoor
