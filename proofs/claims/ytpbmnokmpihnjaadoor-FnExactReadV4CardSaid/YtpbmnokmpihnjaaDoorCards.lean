/-
  DERIVED. GIVEN WITH THE SEED: THE CARDS: each row of YtpbmnokmpihnjaaDoorRows.lean that lists a variable, with what it lists TIED to the program's text (the seventh form; the later family's looks); each row that meets fmt, with fmt's text TOLD by the authors' own Lean function (tested against real Go, not proved from fmt's source: count such statements apart). THE CARD IS WHAT COUNTS. Prove the row's statement (the work); the ties are given (YtpbmnokmpihnjaaDoorTie.lean); close each card by the builder's one call (the guide's Derived/Test/ToyasCard.lean, 'card_holds'). Laid BY PROGRAM, IN A SANDBOX (cutbox-door.mjs). By AI agents, Wed Nov 11 2026. No macro, syntax, notation, axiom, sorry.
-/
import Derived.Test.YtpbmnokmpihnjaaDoorRows
import GoSem.ClaimSeven
namespace Go.Proofs.YtpbmnokmpihnjaaDoor
namespace Rows

/-- THE TIED CARD OF 'laws.FnExactReadType'. -/
def fnExactReadTypeCard : Claim7 := { stood := { row := fnExactReadTypeRow, standIns := [], harness := (true, "0c3c9cb146b177f44a51dfa5635be47c0b127b4c17230ec61a3e13e6212fc6c1"), looks := true }, kinds := [], alts := [], laidByText := true, laidKinds := [.mapped], laidTests := true, laidLooks := .later }
def FnExactReadTypeCardSaid : Prop := Claim7.holds Tryd.pinned (.plain (OpenSpec.ofChange fnExactReadTypeSpec)) fnExactReadTypeCard

/-- THE TIED CARD OF 'laws.FnExactShowType'. -/
def fnExactShowTypeCard : Claim7 := { stood := { row := fnExactShowTypeRow, standIns := [], harness := (true, "0c3c9cb146b177f44a51dfa5635be47c0b127b4c17230ec61a3e13e6212fc6c1"), looks := true }, kinds := [], alts := [], laidByText := true, laidKinds := [.data, .data, .data, .data, .mapped, .pinned, .pinned], laidTests := true, laidLooks := .later }
def FnExactShowTypeCardSaid : Prop := Claim7.holds Tryd.pinned (.plain (OpenSpec.ofChange fnExactShowTypeSpec)) fnExactShowTypeCard

/-- THE TIED CARD OF 'laws.FnExactReadV4'. -/
def fnExactReadV4Card : Claim7 := { stood := { row := fnExactReadV4Row, standIns := [], harness := (true, "0c3c9cb146b177f44a51dfa5635be47c0b127b4c17230ec61a3e13e6212fc6c1"), looks := true }, kinds := [], alts := [], laidByText := true, laidKinds := [.data, .pinned], laidTests := true, laidLooks := .later }
def FnExactReadV4CardSaid : Prop := Claim7.holds Tryd.pinned (.plain (OpenSpec.ofChange fnExactReadV4Spec)) fnExactReadV4Card

/-- THE TIED CARD OF 'laws.FnExactShowV6'. -/
def fnExactShowV6Card : Claim7 := { stood := { row := fnExactShowV6Row, standIns := [], harness := (true, "0c3c9cb146b177f44a51dfa5635be47c0b127b4c17230ec61a3e13e6212fc6c1"), looks := true }, kinds := [], alts := [], laidByText := true, laidKinds := [.data, .data, .data], laidTests := true, laidLooks := .later }
def FnExactShowV6CardSaid : Prop := Claim7.holds Tryd.pinned (.plain (OpenSpec.ofChange fnExactShowV6Spec)) fnExactShowV6Card

/-- THE TIED CARD OF 'laws.FnExactReadV6'. -/
def fnExactReadV6Card : Claim7 := { stood := { row := fnExactReadV6Row, standIns := [], harness := (true, "0c3c9cb146b177f44a51dfa5635be47c0b127b4c17230ec61a3e13e6212fc6c1"), looks := true }, kinds := [], alts := [], laidByText := true, laidKinds := [.data, .data, .data, .data, .sentinel, .sentinel, .pinned], laidTests := true, laidLooks := .later }
def FnExactReadV6CardSaid : Prop := Claim7.holds Tryd.pinned (.plain (OpenSpec.ofChange fnExactReadV6Spec)) fnExactReadV6Card

/-- THE SECOND FORM's CARD OF 'laws.FnExactReadType'. -/
def fnExactReadTypeUptoCard : Claim7 := { stood := { row := fnExactReadTypeUptoRow, standIns := [], harness := (true, "0c3c9cb146b177f44a51dfa5635be47c0b127b4c17230ec61a3e13e6212fc6c1"), looks := true }, kinds := [], alts := [], laidByText := true, laidKinds := [.mapped], laidTests := true, laidLooks := .later }
def FnExactReadTypeUptoCardSaid : Prop := Claim7.holds Tryd.pinned (.plain (OpenSpec.upto fnExactReadTypeSpec)) fnExactReadTypeUptoCard

/-- THE SECOND FORM's CARD OF 'laws.FnExactShowType'. -/
def fnExactShowTypeUptoCard : Claim7 := { stood := { row := fnExactShowTypeUptoRow, standIns := [], harness := (true, "0c3c9cb146b177f44a51dfa5635be47c0b127b4c17230ec61a3e13e6212fc6c1"), looks := true }, kinds := [], alts := [], laidByText := true, laidKinds := [.data, .data, .data, .data, .mapped, .pinned, .pinned], laidTests := true, laidLooks := .later }
def FnExactShowTypeUptoCardSaid : Prop := Claim7.holds Tryd.pinned (.plain (OpenSpec.upto fnExactShowTypeSpec)) fnExactShowTypeUptoCard

/-- THE SECOND FORM's CARD OF 'laws.FnExactReadV4'. -/
def fnExactReadV4UptoCard : Claim7 := { stood := { row := fnExactReadV4UptoRow, standIns := [], harness := (true, "0c3c9cb146b177f44a51dfa5635be47c0b127b4c17230ec61a3e13e6212fc6c1"), looks := true }, kinds := [], alts := [], laidByText := true, laidKinds := [.data, .pinned], laidTests := true, laidLooks := .later }
def FnExactReadV4UptoCardSaid : Prop := Claim7.holds Tryd.pinned (.plain (OpenSpec.upto fnExactReadV4Spec)) fnExactReadV4UptoCard

/-- THE SECOND FORM's CARD OF 'laws.FnExactShowV6'. -/
def fnExactShowV6UptoCard : Claim7 := { stood := { row := fnExactShowV6UptoRow, standIns := [], harness := (true, "0c3c9cb146b177f44a51dfa5635be47c0b127b4c17230ec61a3e13e6212fc6c1"), looks := true }, kinds := [], alts := [], laidByText := true, laidKinds := [.data, .data, .data], laidTests := true, laidLooks := .later }
def FnExactShowV6UptoCardSaid : Prop := Claim7.holds Tryd.pinned (.plain (OpenSpec.upto fnExactShowV6Spec)) fnExactShowV6UptoCard

/-- THE SECOND FORM's CARD OF 'laws.FnExactReadV6'. -/
def fnExactReadV6UptoCard : Claim7 := { stood := { row := fnExactReadV6UptoRow, standIns := [], harness := (true, "0c3c9cb146b177f44a51dfa5635be47c0b127b4c17230ec61a3e13e6212fc6c1"), looks := true }, kinds := [], alts := [], laidByText := true, laidKinds := [.data, .data, .data, .data, .sentinel, .sentinel, .pinned], laidTests := true, laidLooks := .later }
def FnExactReadV6UptoCardSaid : Prop := Claim7.holds Tryd.pinned (.plain (OpenSpec.upto fnExactReadV6Spec)) fnExactReadV6UptoCard
end Rows
end Go.Proofs.YtpbmnokmpihnjaaDoor
