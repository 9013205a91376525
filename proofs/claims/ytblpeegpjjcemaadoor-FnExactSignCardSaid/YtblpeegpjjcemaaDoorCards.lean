/-
  DERIVED. GIVEN WITH THE SEED: THE CARDS: each row of YtblpeegpjjcemaaDoorRows.lean that lists a variable, with what it lists TIED to the program's text (the seventh form; the later family's looks); each row that meets fmt, with fmt's text TOLD by the authors' own Lean function (tested against real Go, not proved from fmt's source: count such statements apart). THE CARD IS WHAT COUNTS. Prove the row's statement (the work); the ties are given (YtblpeegpjjcemaaDoorTie.lean); close each card by the builder's one call (the guide's Derived/Test/ToyasCard.lean, 'card_holds'). Laid BY PROGRAM, IN A SANDBOX (cutbox-door.mjs). By AI agents, Wed Nov 11 2026. No macro, syntax, notation, axiom, sorry.
-/
import Derived.Test.YtblpeegpjjcemaaDoorRows
import GoSem.ClaimSeven
namespace Go.Proofs.YtblpeegpjjcemaaDoor
namespace Rows

/-- THE TIED CARD OF 'laws.FnExactSha256'. -/
def fnExactSha256Card : Claim7 := { stood := { row := fnExactSha256Row, standIns := [], harness := (true, "04d9e42fe38881d8757e09f606673850d10c48324fe124ca3e0b7df14da17ab7"), looks := false }, kinds := [], alts := [], laidByText := true, laidKinds := [.data], laidTests := true, laidLooks := .later }
def FnExactSha256CardSaid : Prop := Claim7.holds Tryd.pinned (.plain (OpenSpec.ofChange fnExactSha256Spec)) fnExactSha256Card

/-- THE TIED CARD OF 'laws.FnExactHmac'. -/
def fnExactHmacCard : Claim7 := { stood := { row := fnExactHmacRow, standIns := [], harness := (true, "04d9e42fe38881d8757e09f606673850d10c48324fe124ca3e0b7df14da17ab7"), looks := false }, kinds := [], alts := [], laidByText := true, laidKinds := [.data], laidTests := true, laidLooks := .later }
def FnExactHmacCardSaid : Prop := Claim7.holds Tryd.pinned (.plain (OpenSpec.ofChange fnExactHmacSpec)) fnExactHmacCard

/-- THE TIED CARD OF 'laws.FnExactSign'. -/
def fnExactSignCard : Claim7 := { stood := { row := fnExactSignRow, standIns := [], harness := (true, "04d9e42fe38881d8757e09f606673850d10c48324fe124ca3e0b7df14da17ab7"), looks := false }, kinds := [], alts := [], laidByText := true, laidKinds := [.data], laidTests := true, laidLooks := .later }
def FnExactSignCardSaid : Prop := Claim7.holds Tryd.pinned (.plain (OpenSpec.ofChange fnExactSignSpec)) fnExactSignCard

/-- THE SECOND FORM's CARD OF 'laws.FnExactSha256'. -/
def fnExactSha256UptoCard : Claim7 := { stood := { row := fnExactSha256UptoRow, standIns := [], harness := (true, "04d9e42fe38881d8757e09f606673850d10c48324fe124ca3e0b7df14da17ab7"), looks := false }, kinds := [], alts := [], laidByText := true, laidKinds := [.data], laidTests := true, laidLooks := .later }
def FnExactSha256UptoCardSaid : Prop := Claim7.holds Tryd.pinned (.plain (OpenSpec.upto fnExactSha256Spec)) fnExactSha256UptoCard

/-- THE SECOND FORM's CARD OF 'laws.FnExactHmac'. -/
def fnExactHmacUptoCard : Claim7 := { stood := { row := fnExactHmacUptoRow, standIns := [], harness := (true, "04d9e42fe38881d8757e09f606673850d10c48324fe124ca3e0b7df14da17ab7"), looks := false }, kinds := [], alts := [], laidByText := true, laidKinds := [.data], laidTests := true, laidLooks := .later }
def FnExactHmacUptoCardSaid : Prop := Claim7.holds Tryd.pinned (.plain (OpenSpec.upto fnExactHmacSpec)) fnExactHmacUptoCard

/-- THE SECOND FORM's CARD OF 'laws.FnExactSign'. -/
def fnExactSignUptoCard : Claim7 := { stood := { row := fnExactSignUptoRow, standIns := [], harness := (true, "04d9e42fe38881d8757e09f606673850d10c48324fe124ca3e0b7df14da17ab7"), looks := false }, kinds := [], alts := [], laidByText := true, laidKinds := [.data], laidTests := true, laidLooks := .later }
def FnExactSignUptoCardSaid : Prop := Claim7.holds Tryd.pinned (.plain (OpenSpec.upto fnExactSignSpec)) fnExactSignUptoCard
end Rows
end Go.Proofs.YtblpeegpjjcemaaDoor
