/-
  DERIVED. GIVEN WITH THE SEED: THE CARDS: each row of YtlekdblkfidciaaDoorRows.lean that lists a variable, with what it lists TIED to the program's text (the seventh form; the later family's looks); each row that meets fmt, with fmt's text TOLD by the authors' own Lean function (tested against real Go, not proved from fmt's source: count such statements apart). THE CARD IS WHAT COUNTS. Prove the row's statement (the work); the ties are given (YtlekdblkfidciaaDoorTie.lean); close each card by the builder's one call (the guide's Derived/Test/ToyasCard.lean, 'card_holds'). Laid BY PROGRAM, IN A SANDBOX (cutbox-door.mjs). By AI agents, Wed Nov 11 2026. No macro, syntax, notation, axiom, sorry.
-/
import Derived.Test.YtlekdblkfidciaaDoorRows
import GoSem.ClaimSeven
namespace Go.Proofs.YtlekdblkfidciaaDoor
namespace Rows

/-- THE TIED CARD OF 'laws.FnExactReadV6'. -/
def fnExactReadV6Card : Claim7 := { stood := { row := fnExactReadV6Row, standIns := [], harness := (true, "bc79b317809a96736f001e8707681160269fbd065cb0ec4631e0772efeefb019"), looks := true }, kinds := [], alts := [], laidByText := true, laidKinds := [.data, .data, .data, .data, .sentinel, .sentinel, .pinned], laidTests := true, laidLooks := .later }
def FnExactReadV6CardSaid : Prop := Claim7.holds Tryd.pinned (.plain (OpenSpec.ofChange fnExactReadV6Spec)) fnExactReadV6Card

/-- THE SECOND FORM's CARD OF 'laws.FnExactReadV6'. -/
def fnExactReadV6UptoCard : Claim7 := { stood := { row := fnExactReadV6UptoRow, standIns := [], harness := (true, "bc79b317809a96736f001e8707681160269fbd065cb0ec4631e0772efeefb019"), looks := true }, kinds := [], alts := [], laidByText := true, laidKinds := [.data, .data, .data, .data, .sentinel, .sentinel, .pinned], laidTests := true, laidLooks := .later }
def FnExactReadV6UptoCardSaid : Prop := Claim7.holds Tryd.pinned (.plain (OpenSpec.upto fnExactReadV6Spec)) fnExactReadV6UptoCard
end Rows
end Go.Proofs.YtlekdblkfidciaaDoor
