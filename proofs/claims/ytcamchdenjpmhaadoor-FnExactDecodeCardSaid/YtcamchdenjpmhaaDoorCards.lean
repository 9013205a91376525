/-
  DERIVED. GIVEN WITH THE SEED: THE CARDS: each row of YtcamchdenjpmhaaDoorRows.lean that lists a variable, with what it lists TIED to the program's text (the seventh form; the later family's looks); each row that meets fmt, with fmt's text TOLD by the authors' own Lean function (tested against real Go, not proved from fmt's source: count such statements apart). THE CARD IS WHAT COUNTS. Prove the row's statement (the work); the ties are given (YtcamchdenjpmhaaDoorTie.lean); close each card by the builder's one call (the guide's Derived/Test/ToyasCard.lean, 'card_holds'). Laid BY PROGRAM, IN A SANDBOX (cutbox-door.mjs). By AI agents, Wed Nov 11 2026. No macro, syntax, notation, axiom, sorry.
-/
import Derived.Test.YtcamchdenjpmhaaDoorRows
import GoSem.ClaimSeven
namespace Go.Proofs.YtcamchdenjpmhaaDoor
namespace Rows

/-- THE TIED CARD OF 'laws.FnExactDecode'. -/
def fnExactDecodeCard : Claim7 := { stood := { row := fnExactDecodeRow, standIns := [], harness := (true, "a3425a019f4456fb1e58ada75e537013b3f05c3e9cfe5f08696757540c966be7"), looks := false }, kinds := [], alts := [], laidByText := true, laidKinds := [.mapped], laidTests := true, laidLooks := .later }
def FnExactDecodeCardSaid : Prop := Claim7.holds Tryd.pinned (.plain (OpenSpec.ofChange fnExactDecodeSpec)) fnExactDecodeCard

/-- THE SECOND FORM's CARD OF 'laws.FnExactDecode'. -/
def fnExactDecodeUptoCard : Claim7 := { stood := { row := fnExactDecodeUptoRow, standIns := [], harness := (true, "a3425a019f4456fb1e58ada75e537013b3f05c3e9cfe5f08696757540c966be7"), looks := false }, kinds := [], alts := [], laidByText := true, laidKinds := [.mapped], laidTests := true, laidLooks := .later }
def FnExactDecodeUptoCardSaid : Prop := Claim7.holds Tryd.pinned (.plain (OpenSpec.upto fnExactDecodeSpec)) fnExactDecodeUptoCard
end Rows
end Go.Proofs.YtcamchdenjpmhaaDoor
