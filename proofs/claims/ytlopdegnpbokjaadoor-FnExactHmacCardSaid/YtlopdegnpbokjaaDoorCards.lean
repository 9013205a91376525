/-
  DERIVED. GIVEN WITH THE SEED: THE CARDS: each row of YtlopdegnpbokjaaDoorRows.lean that lists a variable, with what it lists TIED to the program's text (the seventh form; the later family's looks); each row that meets fmt, with fmt's text TOLD by the authors' own Lean function (tested against real Go, not proved from fmt's source: count such statements apart). THE CARD IS WHAT COUNTS. Prove the row's statement (the work); the ties are given (YtlopdegnpbokjaaDoorTie.lean); close each card by the builder's one call (the guide's Derived/Test/ToyasCard.lean, 'card_holds'). Laid BY PROGRAM, IN A SANDBOX (cutbox-door.mjs). By AI agents, Wed Nov 11 2026. No macro, syntax, notation, axiom, sorry.
-/
import Derived.Test.YtlopdegnpbokjaaDoorRows
import GoSem.ClaimSeven
namespace Go.Proofs.YtlopdegnpbokjaaDoor
namespace Rows

/-- THE TIED CARD OF 'laws.FnExactSha256'. -/
def fnExactSha256Card : Claim7 := { stood := { row := fnExactSha256Row, standIns := [], harness := (true, "535d5252aa46a48e2724c013d8b923874e6ab50824057fdea8731cb3f073d611"), looks := false }, kinds := [], alts := [], laidByText := true, laidKinds := [.data], laidTests := true, laidLooks := .later }
def FnExactSha256CardSaid : Prop := Claim7.holds Tryd.pinned (.plain (OpenSpec.ofChange fnExactSha256Spec)) fnExactSha256Card

/-- THE TIED CARD OF 'laws.FnExactHmac'. -/
def fnExactHmacCard : Claim7 := { stood := { row := fnExactHmacRow, standIns := [], harness := (true, "535d5252aa46a48e2724c013d8b923874e6ab50824057fdea8731cb3f073d611"), looks := false }, kinds := [], alts := [], laidByText := true, laidKinds := [.data], laidTests := true, laidLooks := .later }
def FnExactHmacCardSaid : Prop := Claim7.holds Tryd.pinned (.plain (OpenSpec.ofChange fnExactHmacSpec)) fnExactHmacCard

/-- THE TIED CARD OF 'laws.FnExactSign'. -/
def fnExactSignCard : Claim7 := { stood := { row := fnExactSignRow, standIns := [], harness := (true, "535d5252aa46a48e2724c013d8b923874e6ab50824057fdea8731cb3f073d611"), looks := false }, kinds := [], alts := [], laidByText := true, laidKinds := [.data], laidTests := true, laidLooks := .later }
def FnExactSignCardSaid : Prop := Claim7.holds Tryd.pinned (.plain (OpenSpec.ofChange fnExactSignSpec)) fnExactSignCard

/-- THE TIED CARD OF 'laws.FnExactVerify'. -/
def fnExactVerifyCard : Claim7 := { stood := { row := fnExactVerifyRow, standIns := [], harness := (true, "535d5252aa46a48e2724c013d8b923874e6ab50824057fdea8731cb3f073d611"), looks := false }, kinds := [], alts := [], laidByText := true, laidKinds := [.mapped, .data], laidTests := true, laidLooks := .later }
def FnExactVerifyCardSaid : Prop := Claim7.holds Tryd.pinned (.plain (OpenSpec.ofChange fnExactVerifySpec)) fnExactVerifyCard

/-- THE SECOND FORM's CARD OF 'laws.FnExactSha256'. -/
def fnExactSha256UptoCard : Claim7 := { stood := { row := fnExactSha256UptoRow, standIns := [], harness := (true, "535d5252aa46a48e2724c013d8b923874e6ab50824057fdea8731cb3f073d611"), looks := false }, kinds := [], alts := [], laidByText := true, laidKinds := [.data], laidTests := true, laidLooks := .later }
def FnExactSha256UptoCardSaid : Prop := Claim7.holds Tryd.pinned (.plain (OpenSpec.upto fnExactSha256Spec)) fnExactSha256UptoCard

/-- THE SECOND FORM's CARD OF 'laws.FnExactHmac'. -/
def fnExactHmacUptoCard : Claim7 := { stood := { row := fnExactHmacUptoRow, standIns := [], harness := (true, "535d5252aa46a48e2724c013d8b923874e6ab50824057fdea8731cb3f073d611"), looks := false }, kinds := [], alts := [], laidByText := true, laidKinds := [.data], laidTests := true, laidLooks := .later }
def FnExactHmacUptoCardSaid : Prop := Claim7.holds Tryd.pinned (.plain (OpenSpec.upto fnExactHmacSpec)) fnExactHmacUptoCard

/-- THE SECOND FORM's CARD OF 'laws.FnExactSign'. -/
def fnExactSignUptoCard : Claim7 := { stood := { row := fnExactSignUptoRow, standIns := [], harness := (true, "535d5252aa46a48e2724c013d8b923874e6ab50824057fdea8731cb3f073d611"), looks := false }, kinds := [], alts := [], laidByText := true, laidKinds := [.data], laidTests := true, laidLooks := .later }
def FnExactSignUptoCardSaid : Prop := Claim7.holds Tryd.pinned (.plain (OpenSpec.upto fnExactSignSpec)) fnExactSignUptoCard

/-- THE SECOND FORM's CARD OF 'laws.FnExactVerify'. -/
def fnExactVerifyUptoCard : Claim7 := { stood := { row := fnExactVerifyUptoRow, standIns := [], harness := (true, "535d5252aa46a48e2724c013d8b923874e6ab50824057fdea8731cb3f073d611"), looks := false }, kinds := [], alts := [], laidByText := true, laidKinds := [.mapped, .data], laidTests := true, laidLooks := .later }
def FnExactVerifyUptoCardSaid : Prop := Claim7.holds Tryd.pinned (.plain (OpenSpec.upto fnExactVerifySpec)) fnExactVerifyUptoCard
end Rows
end Go.Proofs.YtlopdegnpbokjaaDoor
