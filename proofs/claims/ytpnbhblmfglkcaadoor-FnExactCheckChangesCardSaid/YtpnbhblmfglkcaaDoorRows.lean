/-
  NARROWER THAN 'FOR EVERY INPUT', by the rows' own cells (each row's printed sentence says how): FnExactCheckChanges: maps, laid · FnExactCheckProof: maps, laid · FnExactSplitTransfer: maps, laid.
  DERIVED. THE GIVEN ROWS OF THIS SEAT. 3 by the template 'for every input the law returns true; each argument reads behind the call as it read before'; 0 by the template 'total and deterministic' (their statements: YtpnbhblmfglkcaaDoorTotals.lean).
  GIVEN WITH THE SEED: the statements are not yours to turn. If you find one false, say at which input.
  Laid BY PROGRAM, IN A SANDBOX (cutbox-rows.mjs): the forced cells as the released guide's own fill.sh prints them over the translation 3453bcd90ad795e4… (all of the seat's roots in one cut). By AI agents, Wed Nov 11 2026. No macro, syntax, notation, axiom, sorry.
-/
import Derived.Test.YtpnbhblmfglkcaaDoorChecked
import GoSem.Claim
import GoSem.ClaimJoined
import GoSem.ClaimMapViews
import Derived.JoinedTies
import Derived.KernelRfl
namespace Go.Proofs.YtpnbhblmfglkcaaDoor
/- THE CELL 'sum', in the pinned program and in every row, IS THE sha256 OF THE DUMP (.gsa) THAT YtpnbhblmfglkcaaDoorProg.lean LOADS. Nothing in Lean hashes anything: it is a label: what it is worth is what the hold of that sum in a sandbox is worth. -/
noncomputable def Tryd.pinned : Pinned := { name := "ytpnbhblmfglkcaadoor", sum := "3453bcd90ad795e4b96ba1407af9ea53457b9c110d847f7c63bf010e00ebff01", checked := Tryd.checked }
namespace Rows
def none {H : Type} : Left H := { results := [], args := [] }

/- WHAT THE LISTED PACKAGE-LEVEL VARIABLES READ AS WHEN THE CALL BEGINS. Each datum BY PROGRAM (the guide's laid-datum.mjs) off the statement by which the dump's own 'gosem.cut.vars' lays the variable. In a bare row this is a premise. The card (YtpnbhblmfglkcaaDoorCards.lean) ties it to the program's text. -/
def laid_loop_example_s01858_impl_forms {H : Type} : DataW H := .map [(.int .i64 1, .lit (.string [52])), (.int .i64 2, .lit (.string [110])), (.int .i64 5, .lit (.string [110])), (.int .i64 6, .lit (.string [110, 110, 103, 103, 103, 103, 113])), (.int .i64 12, .lit (.string [110])), (.int .i64 13, .lit (.string [116, 116])), (.int .i64 15, .lit (.string [50, 110])), (.int .i64 16, .lit (.string [84])), (.int .i64 28, .lit (.string [103, 103, 103, 103])), (.int .i64 33, .lit (.string [50, 50, 50, 110])), (.int .i64 35, .lit (.string [50, 50, 116, 116, 116, 110])), (.int .i64 39, .lit (.string [110])), (.int .i64 47, .lit (.string [110, 109])), (.int .i64 257, .lit (.string [49, 99, 42]))]

/-- 'laws.FnExactCheckChanges': WHATEVER THE INPUT: true; the input reads as it did. -/
def fnExactCheckChangesSpec : ChangeSpec := { name := "fnExactCheckChanges", vars := ["loop.example/s01858/impl.forms"], fn := fun _ => fun
  | [d1, d2, g1] => { results := [.lit (.bool true)], args := [d1, d2], vars := [g1] }
  | _ => none }
def fnExactCheckChangesRow : OpenClaim := { program := "ytpnbhblmfglkcaadoor", sum := "3453bcd90ad795e4b96ba1407af9ea53457b9c110d847f7c63bf010e00ebff01", func := "loop.example/s01858/laws.FnExactCheckChanges", spec := "fnExactCheckChanges", inPlace := ["internal/abi.NoEscape"], unfollowed := true, recurses := true, named := ["loop.example/s01858/impl.forms"], maps := true, apart := false, laid := [("loop.example/s01858/impl.forms", laid_loop_example_s01858_impl_forms)] }
def FnExactCheckChangesSaid : Prop := fnExactCheckChangesRow.holds Tryd.pinned (OpenSpec.ofChange fnExactCheckChangesSpec)

/-- ITS FALSE NEIGHBOUR: 'it returns false'. Refute it at one input. -/
def fnExactCheckChangesWrong : ChangeSpec := { name := "fnExactCheckChanges", vars := ["loop.example/s01858/impl.forms"], fn := fun _ => fun
  | [d1, d2, g1] => { results := [.lit (.bool false)], args := [d1, d2], vars := [g1] }
  | _ => none }
def FnExactCheckChangesWrongFalsely : Prop := fnExactCheckChangesRow.holds Tryd.pinned (OpenSpec.ofChange fnExactCheckChangesWrong)

/-- 'laws.FnExactCheckProof': WHATEVER THE INPUT: true; the input reads as it did. -/
def fnExactCheckProofSpec : ChangeSpec := { name := "fnExactCheckProof", vars := ["loop.example/s01858/impl.forms"], fn := fun _ => fun
  | [d1, d2, d3, d4, g1] => { results := [.lit (.bool true)], args := [d1, d2, d3, d4], vars := [g1] }
  | _ => none }
def fnExactCheckProofRow : OpenClaim := { program := "ytpnbhblmfglkcaadoor", sum := "3453bcd90ad795e4b96ba1407af9ea53457b9c110d847f7c63bf010e00ebff01", func := "loop.example/s01858/laws.FnExactCheckProof", spec := "fnExactCheckProof", inPlace := ["internal/abi.NoEscape", "internal/bytealg.abigen_runtime_cmpstring"], unfollowed := true, recurses := true, named := ["loop.example/s01858/impl.forms"], maps := true, apart := false, laid := [("loop.example/s01858/impl.forms", laid_loop_example_s01858_impl_forms)] }
def FnExactCheckProofSaid : Prop := fnExactCheckProofRow.holds Tryd.pinned (OpenSpec.ofChange fnExactCheckProofSpec)

/-- ITS FALSE NEIGHBOUR: 'it returns false'. Refute it at one input. -/
def fnExactCheckProofWrong : ChangeSpec := { name := "fnExactCheckProof", vars := ["loop.example/s01858/impl.forms"], fn := fun _ => fun
  | [d1, d2, d3, d4, g1] => { results := [.lit (.bool false)], args := [d1, d2, d3, d4], vars := [g1] }
  | _ => none }
def FnExactCheckProofWrongFalsely : Prop := fnExactCheckProofRow.holds Tryd.pinned (OpenSpec.ofChange fnExactCheckProofWrong)

/-- 'laws.FnExactSplitTransfer': WHATEVER THE INPUT: true; the input reads as it did. -/
def fnExactSplitTransferSpec : ChangeSpec := { name := "fnExactSplitTransfer", vars := ["loop.example/s01858/impl.forms"], fn := fun _ => fun
  | [d1, d2, d3, d4, g1] => { results := [.lit (.bool true)], args := [d1, d2, d3, d4], vars := [g1] }
  | _ => none }
def fnExactSplitTransferRow : OpenClaim := { program := "ytpnbhblmfglkcaadoor", sum := "3453bcd90ad795e4b96ba1407af9ea53457b9c110d847f7c63bf010e00ebff01", func := "loop.example/s01858/laws.FnExactSplitTransfer", spec := "fnExactSplitTransfer", unfollowed := true, recurses := true, named := ["loop.example/s01858/impl.forms", "encoding/binary.BigEndian"], maps := true, apart := false, laid := [("loop.example/s01858/impl.forms", laid_loop_example_s01858_impl_forms)] }
def FnExactSplitTransferSaid : Prop := fnExactSplitTransferRow.holds Tryd.pinned (OpenSpec.ofChange fnExactSplitTransferSpec)

/-- ITS FALSE NEIGHBOUR: 'it returns false'. Refute it at one input. -/
def fnExactSplitTransferWrong : ChangeSpec := { name := "fnExactSplitTransfer", vars := ["loop.example/s01858/impl.forms"], fn := fun _ => fun
  | [d1, d2, d3, d4, g1] => { results := [.lit (.bool false)], args := [d1, d2, d3, d4], vars := [g1] }
  | _ => none }
def FnExactSplitTransferWrongFalsely : Prop := fnExactSplitTransferRow.holds Tryd.pinned (OpenSpec.ofChange fnExactSplitTransferWrong)

/- THE SECOND FORM. 'bulk': how many values and letters a reading holds, each counted each time it is reached (what is shared counts as often as it is met; a slice's spare places count too). A statement '..UptoSaid' is the law's where the arguments, and the package variables that the reading takes, are together of bulk at most 1048576: NARROWER than '..Said'. Prove '..Said' where nothing that the law and all that it calls make is longer than what came in: it says more and counts as full. Else prove '..UptoSaid'. A law counts once. -/
mutual
def uptoBulk {H : Type} : DataW H → Nat
  | .lit (.string bytes) => bytes.length + 1
  | .lit _ => 1
  | .nil => 1
  | .ptr d => uptoBulk d + 1
  | .slice elems spare => uptoBulkAll elems + uptoBulkAll spare + 1
  | .agg parts => uptoBulkAll parts + 1
  | .iface _ d => uptoBulk d + 1
  | .map entries => uptoBulkEntries entries + 1
  | .held _ => 1
def uptoBulkAll {H : Type} : List (DataW H) → Nat
  | [] => 0
  | d :: r => uptoBulk d + uptoBulkAll r
def uptoBulkEntries {H : Type} : List (Lit × DataW H) → Nat
  | [] => 0
  | x :: r => uptoBulkEntry x + uptoBulkEntries r
def uptoBulkEntry {H : Type} : Lit × DataW H → Nat
  | (.string bytes, d) => bytes.length + uptoBulk d + 1
  | (_, d) => uptoBulk d + 1
 end
def uptoSmall : (H : Type) → List (DataW H) → Bool := fun _ ds => decide (uptoBulkAll ds ≤ 1048576)
def OpenSpec.upto (s : _root_.Go.ChangeSpec) : _root_.Go.OpenSpec := { _root_.Go.OpenSpec.ofChange s with cond := some uptoSmall }

/-- 'laws.FnExactCheckChanges', WHERE WHAT IT READS IS OF BULK AT MOST 1048576: true; the input reads as it did. -/
def fnExactCheckChangesUptoRow : OpenClaim := { program := "ytpnbhblmfglkcaadoor", sum := "3453bcd90ad795e4b96ba1407af9ea53457b9c110d847f7c63bf010e00ebff01", func := "loop.example/s01858/laws.FnExactCheckChanges", spec := "fnExactCheckChanges", inPlace := ["internal/abi.NoEscape"], unfollowed := true, recurses := true, named := ["loop.example/s01858/impl.forms"], maps := true, apart := false, laid := [("loop.example/s01858/impl.forms", laid_loop_example_s01858_impl_forms)], narrowed := true }
def FnExactCheckChangesUptoSaid : Prop := fnExactCheckChangesUptoRow.holds Tryd.pinned (OpenSpec.upto fnExactCheckChangesSpec)

/-- 'laws.FnExactCheckProof', WHERE WHAT IT READS IS OF BULK AT MOST 1048576: true; the input reads as it did. -/
def fnExactCheckProofUptoRow : OpenClaim := { program := "ytpnbhblmfglkcaadoor", sum := "3453bcd90ad795e4b96ba1407af9ea53457b9c110d847f7c63bf010e00ebff01", func := "loop.example/s01858/laws.FnExactCheckProof", spec := "fnExactCheckProof", inPlace := ["internal/abi.NoEscape", "internal/bytealg.abigen_runtime_cmpstring"], unfollowed := true, recurses := true, named := ["loop.example/s01858/impl.forms"], maps := true, apart := false, laid := [("loop.example/s01858/impl.forms", laid_loop_example_s01858_impl_forms)], narrowed := true }
def FnExactCheckProofUptoSaid : Prop := fnExactCheckProofUptoRow.holds Tryd.pinned (OpenSpec.upto fnExactCheckProofSpec)

/-- 'laws.FnExactSplitTransfer', WHERE WHAT IT READS IS OF BULK AT MOST 1048576: true; the input reads as it did. -/
def fnExactSplitTransferUptoRow : OpenClaim := { program := "ytpnbhblmfglkcaadoor", sum := "3453bcd90ad795e4b96ba1407af9ea53457b9c110d847f7c63bf010e00ebff01", func := "loop.example/s01858/laws.FnExactSplitTransfer", spec := "fnExactSplitTransfer", unfollowed := true, recurses := true, named := ["loop.example/s01858/impl.forms", "encoding/binary.BigEndian"], maps := true, apart := false, laid := [("loop.example/s01858/impl.forms", laid_loop_example_s01858_impl_forms)], narrowed := true }
def FnExactSplitTransferUptoSaid : Prop := fnExactSplitTransferUptoRow.holds Tryd.pinned (OpenSpec.upto fnExactSplitTransferSpec)

end Rows
end Go.Proofs.YtpnbhblmfglkcaaDoor
