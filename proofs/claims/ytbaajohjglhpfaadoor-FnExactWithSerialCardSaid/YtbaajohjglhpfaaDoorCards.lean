/-
  DERIVED. GIVEN WITH THE SEED: THE CARDS: each row of YtbaajohjglhpfaaDoorRows.lean that lists a variable, with what it lists TIED to the program's text (the seventh form; the later family's looks); each row that meets fmt, with fmt's text TOLD by the authors' own Lean function (tested against real Go, not proved from fmt's source: count such statements apart). THE CARD IS WHAT COUNTS. Prove the row's statement (the work); the ties are given (YtbaajohjglhpfaaDoorTie.lean); close each card by the builder's one call (the guide's Derived/Test/ToyasCard.lean, 'card_holds'). Laid BY PROGRAM, IN A SANDBOX (cutbox-door.mjs). By AI agents, Wed Nov 11 2026. No macro, syntax, notation, axiom, sorry.
-/
import Derived.Test.YtbaajohjglhpfaaDoorRows
import GoSem.ClaimSeven
namespace Go.Proofs.YtbaajohjglhpfaaDoor
namespace Rows

/-- THE TIED CARD OF 'laws.FnExactCheckData'. -/
def fnExactCheckDataCard : Claim7 := { stood := { row := fnExactCheckDataRow, standIns := [], harness := (true, "a71cce0d9c634e1873534bc5148387056bf8f9a90435827dabebf7fd23b2ae95"), looks := false }, kinds := [], alts := [], laidByText := true, laidKinds := [.mapped], laidTests := true, laidLooks := .later }
def FnExactCheckDataCardSaid : Prop := Claim7.holds Tryd.pinned (.plain (OpenSpec.ofChange fnExactCheckDataSpec)) fnExactCheckDataCard

/-- THE TIED CARD OF 'laws.FnExactSerial'. -/
def fnExactSerialCard : Claim7 := { stood := { row := fnExactSerialRow, standIns := [], harness := (true, "a71cce0d9c634e1873534bc5148387056bf8f9a90435827dabebf7fd23b2ae95"), looks := false }, kinds := [], alts := [], laidByText := true, laidKinds := [.mapped], laidTests := true, laidLooks := .later }
def FnExactSerialCardSaid : Prop := Claim7.holds Tryd.pinned (.plain (OpenSpec.ofChange fnExactSerialSpec)) fnExactSerialCard

/-- THE TIED CARD OF 'laws.FnExactWithSerial'. -/
def fnExactWithSerialCard : Claim7 := { stood := { row := fnExactWithSerialRow, standIns := [], harness := (true, "a71cce0d9c634e1873534bc5148387056bf8f9a90435827dabebf7fd23b2ae95"), looks := false }, kinds := [], alts := [], laidByText := true, laidKinds := [.mapped], laidTests := true, laidLooks := .later }
def FnExactWithSerialCardSaid : Prop := Claim7.holds Tryd.pinned (.plain (OpenSpec.ofChange fnExactWithSerialSpec)) fnExactWithSerialCard

/-- THE TIED CARD OF 'laws.FnExactDataNames'. -/
def fnExactDataNamesCard : Claim7 := { stood := { row := fnExactDataNamesRow, standIns := [], harness := (true, "a71cce0d9c634e1873534bc5148387056bf8f9a90435827dabebf7fd23b2ae95"), looks := false }, kinds := [], alts := [], laidByText := true, laidKinds := [.mapped], laidTests := true, laidLooks := .later }
def FnExactDataNamesCardSaid : Prop := Claim7.holds Tryd.pinned (.plain (OpenSpec.ofChange fnExactDataNamesSpec)) fnExactDataNamesCard

/-- THE TIED CARD OF 'laws.FnExactFoldData'. -/
def fnExactFoldDataCard : Claim7 := { stood := { row := fnExactFoldDataRow, standIns := [], harness := (true, "a71cce0d9c634e1873534bc5148387056bf8f9a90435827dabebf7fd23b2ae95"), looks := false }, kinds := [], alts := [], laidByText := true, laidKinds := [.mapped], laidTests := true, laidLooks := .later }
def FnExactFoldDataCardSaid : Prop := Claim7.holds Tryd.pinned (.plain (OpenSpec.ofChange fnExactFoldDataSpec)) fnExactFoldDataCard

/-- THE TIED CARD OF 'laws.FnExactCompareData'. -/
def fnExactCompareDataCard : Claim7 := { stood := { row := fnExactCompareDataRow, standIns := [], harness := (true, "a71cce0d9c634e1873534bc5148387056bf8f9a90435827dabebf7fd23b2ae95"), looks := false }, kinds := [], alts := [], laidByText := true, laidKinds := [.mapped], laidTests := true, laidLooks := .later }
def FnExactCompareDataCardSaid : Prop := Claim7.holds Tryd.pinned (.plain (OpenSpec.ofChange fnExactCompareDataSpec)) fnExactCompareDataCard

/-- THE SECOND FORM's CARD OF 'laws.FnExactCheckData'. -/
def fnExactCheckDataUptoCard : Claim7 := { stood := { row := fnExactCheckDataUptoRow, standIns := [], harness := (true, "a71cce0d9c634e1873534bc5148387056bf8f9a90435827dabebf7fd23b2ae95"), looks := false }, kinds := [], alts := [], laidByText := true, laidKinds := [.mapped], laidTests := true, laidLooks := .later }
def FnExactCheckDataUptoCardSaid : Prop := Claim7.holds Tryd.pinned (.plain (OpenSpec.upto fnExactCheckDataSpec)) fnExactCheckDataUptoCard

/-- THE SECOND FORM's CARD OF 'laws.FnExactSerial'. -/
def fnExactSerialUptoCard : Claim7 := { stood := { row := fnExactSerialUptoRow, standIns := [], harness := (true, "a71cce0d9c634e1873534bc5148387056bf8f9a90435827dabebf7fd23b2ae95"), looks := false }, kinds := [], alts := [], laidByText := true, laidKinds := [.mapped], laidTests := true, laidLooks := .later }
def FnExactSerialUptoCardSaid : Prop := Claim7.holds Tryd.pinned (.plain (OpenSpec.upto fnExactSerialSpec)) fnExactSerialUptoCard

/-- THE SECOND FORM's CARD OF 'laws.FnExactWithSerial'. -/
def fnExactWithSerialUptoCard : Claim7 := { stood := { row := fnExactWithSerialUptoRow, standIns := [], harness := (true, "a71cce0d9c634e1873534bc5148387056bf8f9a90435827dabebf7fd23b2ae95"), looks := false }, kinds := [], alts := [], laidByText := true, laidKinds := [.mapped], laidTests := true, laidLooks := .later }
def FnExactWithSerialUptoCardSaid : Prop := Claim7.holds Tryd.pinned (.plain (OpenSpec.upto fnExactWithSerialSpec)) fnExactWithSerialUptoCard

/-- THE SECOND FORM's CARD OF 'laws.FnExactDataNames'. -/
def fnExactDataNamesUptoCard : Claim7 := { stood := { row := fnExactDataNamesUptoRow, standIns := [], harness := (true, "a71cce0d9c634e1873534bc5148387056bf8f9a90435827dabebf7fd23b2ae95"), looks := false }, kinds := [], alts := [], laidByText := true, laidKinds := [.mapped], laidTests := true, laidLooks := .later }
def FnExactDataNamesUptoCardSaid : Prop := Claim7.holds Tryd.pinned (.plain (OpenSpec.upto fnExactDataNamesSpec)) fnExactDataNamesUptoCard

/-- THE SECOND FORM's CARD OF 'laws.FnExactFoldData'. -/
def fnExactFoldDataUptoCard : Claim7 := { stood := { row := fnExactFoldDataUptoRow, standIns := [], harness := (true, "a71cce0d9c634e1873534bc5148387056bf8f9a90435827dabebf7fd23b2ae95"), looks := false }, kinds := [], alts := [], laidByText := true, laidKinds := [.mapped], laidTests := true, laidLooks := .later }
def FnExactFoldDataUptoCardSaid : Prop := Claim7.holds Tryd.pinned (.plain (OpenSpec.upto fnExactFoldDataSpec)) fnExactFoldDataUptoCard

/-- THE SECOND FORM's CARD OF 'laws.FnExactCompareData'. -/
def fnExactCompareDataUptoCard : Claim7 := { stood := { row := fnExactCompareDataUptoRow, standIns := [], harness := (true, "a71cce0d9c634e1873534bc5148387056bf8f9a90435827dabebf7fd23b2ae95"), looks := false }, kinds := [], alts := [], laidByText := true, laidKinds := [.mapped], laidTests := true, laidLooks := .later }
def FnExactCompareDataUptoCardSaid : Prop := Claim7.holds Tryd.pinned (.plain (OpenSpec.upto fnExactCompareDataSpec)) fnExactCompareDataUptoCard
end Rows
end Go.Proofs.YtbaajohjglhpfaaDoor
