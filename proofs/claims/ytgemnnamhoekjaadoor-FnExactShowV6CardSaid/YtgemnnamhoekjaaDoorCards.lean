/-
  DERIVED. GIVEN WITH THE SEED: THE CARDS: each row of YtgemnnamhoekjaaDoorRows.lean that lists a variable, with what it lists TIED to the program's text (the seventh form; the later family's looks); each row that meets fmt, with fmt's text TOLD by the authors' own Lean function (tested against real Go, not proved from fmt's source: count such statements apart). THE CARD IS WHAT COUNTS. Prove the row's statement (the work); the ties are given (YtgemnnamhoekjaaDoorTie.lean); close each card by the builder's one call (the guide's Derived/Test/ToyasCard.lean, 'card_holds'). Laid BY PROGRAM, IN A SANDBOX (cutbox-door.mjs). By AI agents, Wed Nov 11 2026. No macro, syntax, notation, axiom, sorry.
-/
import Derived.Test.YtgemnnamhoekjaaDoorRows
import GoSem.ClaimSeven
namespace Go.Proofs.YtgemnnamhoekjaaDoor
namespace Rows

/-- THE TIED CARD OF 'laws.FnExactShowV6'. -/
def fnExactShowV6Card : Claim7 := { stood := { row := fnExactShowV6Row, standIns := [], harness := (true, "57e6d734388ecaf302b6b2093e3541af57a7062bfd79d3acaba7bcf6f2d9a927"), looks := false }, kinds := [], alts := [], laidByText := true, laidKinds := [.data, .data, .data], laidTests := true, laidLooks := .later }
def FnExactShowV6CardSaid : Prop := Claim7.holds Tryd.pinned (.plain (OpenSpec.ofChange fnExactShowV6Spec)) fnExactShowV6Card

/-- THE SECOND FORM's CARD OF 'laws.FnExactShowV6'. -/
def fnExactShowV6UptoCard : Claim7 := { stood := { row := fnExactShowV6UptoRow, standIns := [], harness := (true, "57e6d734388ecaf302b6b2093e3541af57a7062bfd79d3acaba7bcf6f2d9a927"), looks := false }, kinds := [], alts := [], laidByText := true, laidKinds := [.data, .data, .data], laidTests := true, laidLooks := .later }
def FnExactShowV6UptoCardSaid : Prop := Claim7.holds Tryd.pinned (.plain (OpenSpec.upto fnExactShowV6Spec)) fnExactShowV6UptoCard
end Rows
end Go.Proofs.YtgemnnamhoekjaaDoor
