/-
  DERIVED. GIVEN WITH THE SEED: THE CARDS: each row of YtjffefbgeaabjaaDoorRows.lean that lists a variable, with what it lists TIED to the program's text (the seventh form; the later family's looks); each row that meets fmt, with fmt's text TOLD by the authors' own Lean function (tested against real Go, not proved from fmt's source: count such statements apart). THE CARD IS WHAT COUNTS. Prove the row's statement (the work); the ties are given (YtjffefbgeaabjaaDoorTie.lean); close each card by the builder's one call (the guide's Derived/Test/ToyasCard.lean, 'card_holds'). Laid BY PROGRAM, IN A SANDBOX (cutbox-door.mjs). By AI agents, Wed Nov 11 2026. No macro, syntax, notation, axiom, sorry.
-/
import Derived.Test.YtjffefbgeaabjaaDoorRows
import GoSem.ClaimSeven
namespace Go.Proofs.YtjffefbgeaabjaaDoor
namespace Rows

/-- THE TIED CARD OF 'laws.FnExactShowType'. -/
def fnExactShowTypeCard : Claim7 := { stood := { row := fnExactShowTypeRow, standIns := [], harness := (true, "5ee3347a7496324887f2b87bc85acf73f3147323985fc8f43381cebe8b9ede6a"), looks := false }, kinds := [], alts := [], laidByText := true, laidKinds := [.data, .data, .data, .data, .mapped, .pinned, .pinned], laidTests := true, laidLooks := .later }
def FnExactShowTypeCardSaid : Prop := Claim7.holds Tryd.pinned (.plain (OpenSpec.ofChange fnExactShowTypeSpec)) fnExactShowTypeCard

/-- THE SECOND FORM's CARD OF 'laws.FnExactShowType'. -/
def fnExactShowTypeUptoCard : Claim7 := { stood := { row := fnExactShowTypeUptoRow, standIns := [], harness := (true, "5ee3347a7496324887f2b87bc85acf73f3147323985fc8f43381cebe8b9ede6a"), looks := false }, kinds := [], alts := [], laidByText := true, laidKinds := [.data, .data, .data, .data, .mapped, .pinned, .pinned], laidTests := true, laidLooks := .later }
def FnExactShowTypeUptoCardSaid : Prop := Claim7.holds Tryd.pinned (.plain (OpenSpec.upto fnExactShowTypeSpec)) fnExactShowTypeUptoCard
end Rows
end Go.Proofs.YtjffefbgeaabjaaDoor
