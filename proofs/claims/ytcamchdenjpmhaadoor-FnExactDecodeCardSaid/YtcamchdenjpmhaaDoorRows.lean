/-
  NARROWER THAN 'FOR EVERY INPUT', by the rows' own cells (each row's printed sentence says how): FnExactDecode: maps, laid.
  DERIVED. THE GIVEN ROWS OF THIS SEAT. 1 by the template 'for every input the law returns true; each argument reads behind the call as it read before'; 0 by the template 'total and deterministic' (their statements: YtcamchdenjpmhaaDoorTotals.lean).
  GIVEN WITH THE SEED: the statements are not yours to turn. If you find one false, say at which input.
  Laid BY PROGRAM, IN A SANDBOX (cutbox-rows.mjs): the forced cells as the released guide's own fill.sh prints them over the translation 8ee88d226a04f669… (all of the seat's roots in one cut). By AI agents, Wed Nov 11 2026. No macro, syntax, notation, axiom, sorry.
-/
import Derived.Test.YtcamchdenjpmhaaDoorChecked
import GoSem.Claim
import GoSem.ClaimJoined
import GoSem.ClaimMapViews
import Derived.JoinedTies
import Derived.KernelRfl
namespace Go.Proofs.YtcamchdenjpmhaaDoor
/- THE CELL 'sum', in the pinned program and in every row, IS THE sha256 OF THE DUMP (.gsa) THAT YtcamchdenjpmhaaDoorProg.lean LOADS. Nothing in Lean hashes anything: it is a label: what it is worth is what the hold of that sum in a sandbox is worth. -/
noncomputable def Tryd.pinned : Pinned := { name := "ytcamchdenjpmhaadoor", sum := "8ee88d226a04f66912abaac07397cbf0fe07525a71e70b901bb0ce3da9d870aa", checked := Tryd.checked }
namespace Rows
def none {H : Type} : Left H := { results := [], args := [] }

/- WHAT THE LISTED PACKAGE-LEVEL VARIABLES READ AS WHEN THE CALL BEGINS. Each datum BY PROGRAM (the guide's laid-datum.mjs) off the statement by which the dump's own 'gosem.cut.vars' lays the variable. In a bare row this is a premise. The card (YtcamchdenjpmhaaDoorCards.lean) ties it to the program's text. -/
def laid_loop_example_s01858_impl_forms {H : Type} : DataW H := .map [(.int .i64 1, .lit (.string [52])), (.int .i64 2, .lit (.string [110])), (.int .i64 5, .lit (.string [110])), (.int .i64 6, .lit (.string [110, 110, 103, 103, 103, 103, 113])), (.int .i64 12, .lit (.string [110])), (.int .i64 13, .lit (.string [116, 116])), (.int .i64 15, .lit (.string [50, 110])), (.int .i64 16, .lit (.string [84])), (.int .i64 28, .lit (.string [103, 103, 103, 103])), (.int .i64 33, .lit (.string [50, 50, 50, 110])), (.int .i64 35, .lit (.string [50, 50, 116, 116, 116, 110])), (.int .i64 39, .lit (.string [110])), (.int .i64 47, .lit (.string [110, 109])), (.int .i64 257, .lit (.string [49, 99, 42]))]

/-- 'laws.FnExactDecode': WHATEVER THE INPUT: true; the input reads as it did. -/
def fnExactDecodeSpec : ChangeSpec := { name := "fnExactDecode", vars := ["loop.example/s01858/impl.forms"], fn := fun _ => fun
  | [d, g1] => { results := [.lit (.bool true)], args := [d], vars := [g1] }
  | _ => none }
def fnExactDecodeRow : OpenClaim := { program := "ytcamchdenjpmhaadoor", sum := "8ee88d226a04f66912abaac07397cbf0fe07525a71e70b901bb0ce3da9d870aa", func := "loop.example/s01858/laws.FnExactDecode", spec := "fnExactDecode", unfollowed := true, recurses := true, named := ["encoding/binary.BigEndian", "loop.example/s01858/impl.forms"], maps := true, apart := false, laid := [("loop.example/s01858/impl.forms", laid_loop_example_s01858_impl_forms)] }
def FnExactDecodeSaid : Prop := fnExactDecodeRow.holds Tryd.pinned (OpenSpec.ofChange fnExactDecodeSpec)

/-- ITS FALSE NEIGHBOUR: 'it returns false'. Refute it at one input. -/
def fnExactDecodeWrong : ChangeSpec := { name := "fnExactDecode", vars := ["loop.example/s01858/impl.forms"], fn := fun _ => fun
  | [d, g1] => { results := [.lit (.bool false)], args := [d], vars := [g1] }
  | _ => none }
def FnExactDecodeWrongFalsely : Prop := fnExactDecodeRow.holds Tryd.pinned (OpenSpec.ofChange fnExactDecodeWrong)

/- THE SECOND FORM. 'bulk': how many values and letters a reading holds, each counted each time it is reached (what is shared counts as often as it is met; a slice's spare places count too). A statement '..UptoSaid' is the law's where the arguments, and the package variables that the reading takes, are together of bulk at most 1048576: NARROWER than '..Said'. Prove '..Said' where nothing that the law and all that it calls make is longer than what came in: it says more and counts as full. Else prove '..UptoSaid'. A law counts once. -/
mutual
def uptoBulk {H : Type} : DataW H → Nat
  | .lit (.string bytes) => bytes.length + 1
  | .lit _ => 1
  | .nil => 1
  | .ptr d => uptoBulk d + 1
  | .slice elems spare => uptoBulkAll elems + uptoBulkAll spare + 1
  | .agg parts => uptoBulkAll parts + 1
  | .iface _ d => uptoBulk d + 1
  | .map entries => uptoBulkEntries entries + 1
  | .held _ => 1
def uptoBulkAll {H : Type} : List (DataW H) → Nat
  | [] => 0
  | d :: r => uptoBulk d + uptoBulkAll r
def uptoBulkEntries {H : Type} : List (Lit × DataW H) → Nat
  | [] => 0
  | x :: r => uptoBulkEntry x + uptoBulkEntries r
def uptoBulkEntry {H : Type} : Lit × DataW H → Nat
  | (.string bytes, d) => bytes.length + uptoBulk d + 1
  | (_, d) => uptoBulk d + 1
 end
def uptoSmall : (H : Type) → List (DataW H) → Bool := fun _ ds => decide (uptoBulkAll ds ≤ 1048576)
def OpenSpec.upto (s : _root_.Go.ChangeSpec) : _root_.Go.OpenSpec := { _root_.Go.OpenSpec.ofChange s with cond := some uptoSmall }

/-- 'laws.FnExactDecode', WHERE WHAT IT READS IS OF BULK AT MOST 1048576: true; the input reads as it did. -/
def fnExactDecodeUptoRow : OpenClaim := { program := "ytcamchdenjpmhaadoor", sum := "8ee88d226a04f66912abaac07397cbf0fe07525a71e70b901bb0ce3da9d870aa", func := "loop.example/s01858/laws.FnExactDecode", spec := "fnExactDecode", unfollowed := true, recurses := true, named := ["encoding/binary.BigEndian", "loop.example/s01858/impl.forms"], maps := true, apart := false, laid := [("loop.example/s01858/impl.forms", laid_loop_example_s01858_impl_forms)], narrowed := true }
def FnExactDecodeUptoSaid : Prop := fnExactDecodeUptoRow.holds Tryd.pinned (OpenSpec.upto fnExactDecodeSpec)

end Rows
end Go.Proofs.YtcamchdenjpmhaaDoor
