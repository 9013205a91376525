/-
  NARROWER THAN 'FOR EVERY INPUT', by the rows' own cells (each row's printed sentence says how): FnExactCheckData: maps, laid · FnExactSerial: maps, laid · FnExactWithSerial: maps, laid · FnExactDataNames: maps, laid · FnExactFoldData: maps, laid · FnExactCompareData: maps, laid.
  DERIVED. THE GIVEN ROWS OF THIS SEAT. 6 by the template 'for every input the law returns true; each argument reads behind the call as it read before'; 0 by the template 'total and deterministic' (their statements: YtbaajohjglhpfaaDoorTotals.lean).
  GIVEN WITH THE SEED: the statements are not yours to turn. If you find one false, say at which input.
  Laid BY PROGRAM, IN A SANDBOX (cutbox-rows.mjs): the forced cells as the released guide's own fill.sh prints them over the translation 9e4b989fad0c789e… (all of the seat's roots in one cut). By AI agents, Wed Nov 11 2026. No macro, syntax, notation, axiom, sorry.
-/
import Derived.Test.YtbaajohjglhpfaaDoorChecked
import GoSem.Claim
import GoSem.ClaimJoined
import GoSem.ClaimMapViews
import Derived.JoinedTies
import Derived.KernelRfl
namespace Go.Proofs.YtbaajohjglhpfaaDoor
/- THE CELL 'sum', in the pinned program and in every row, IS THE sha256 OF THE DUMP (.gsa) THAT YtbaajohjglhpfaaDoorProg.lean LOADS. Nothing in Lean hashes anything: it is a label: what it is worth is what the hold of that sum in a sandbox is worth. -/
noncomputable def Tryd.pinned : Pinned := { name := "ytbaajohjglhpfaadoor", sum := "9e4b989fad0c789e972883efc009b8865a9c140d6febe2e6a301856eb8379da0", checked := Tryd.checked }
namespace Rows
def none {H : Type} : Left H := { results := [], args := [] }

/- WHAT THE LISTED PACKAGE-LEVEL VARIABLES READ AS WHEN THE CALL BEGINS. Each datum BY PROGRAM (the guide's laid-datum.mjs) off the statement by which the dump's own 'gosem.cut.vars' lays the variable. In a bare row this is a premise. The card (YtbaajohjglhpfaaDoorCards.lean) ties it to the program's text. -/
def laid_loop_example_s01858_impl_forms {H : Type} : DataW H := .map [(.int .i64 1, .lit (.string [52])), (.int .i64 2, .lit (.string [110])), (.int .i64 5, .lit (.string [110])), (.int .i64 6, .lit (.string [110, 110, 103, 103, 103, 103, 113])), (.int .i64 12, .lit (.string [110])), (.int .i64 13, .lit (.string [116, 116])), (.int .i64 15, .lit (.string [50, 110])), (.int .i64 16, .lit (.string [84])), (.int .i64 28, .lit (.string [103, 103, 103, 103])), (.int .i64 33, .lit (.string [50, 50, 50, 110])), (.int .i64 35, .lit (.string [50, 50, 116, 116, 116, 110])), (.int .i64 39, .lit (.string [110])), (.int .i64 47, .lit (.string [110, 109])), (.int .i64 257, .lit (.string [49, 99, 42]))]

/-- 'laws.FnExactCheckData': WHATEVER THE INPUT: true; the input reads as it did. -/
def fnExactCheckDataSpec : ChangeSpec := { name := "fnExactCheckData", vars := ["loop.example/s01858/impl.forms"], fn := fun _ => fun
  | [d1, d2, g1] => { results := [.lit (.bool true)], args := [d1, d2], vars := [g1] }
  | _ => none }
def fnExactCheckDataRow : OpenClaim := { program := "ytbaajohjglhpfaadoor", sum := "9e4b989fad0c789e972883efc009b8865a9c140d6febe2e6a301856eb8379da0", func := "loop.example/s01858/laws.FnExactCheckData", spec := "fnExactCheckData", unfollowed := true, recurses := true, named := ["loop.example/s01858/impl.forms"], maps := true, apart := false, laid := [("loop.example/s01858/impl.forms", laid_loop_example_s01858_impl_forms)] }
def FnExactCheckDataSaid : Prop := fnExactCheckDataRow.holds Tryd.pinned (OpenSpec.ofChange fnExactCheckDataSpec)

/-- ITS FALSE NEIGHBOUR: 'it returns false'. Refute it at one input. -/
def fnExactCheckDataWrong : ChangeSpec := { name := "fnExactCheckData", vars := ["loop.example/s01858/impl.forms"], fn := fun _ => fun
  | [d1, d2, g1] => { results := [.lit (.bool false)], args := [d1, d2], vars := [g1] }
  | _ => none }
def FnExactCheckDataWrongFalsely : Prop := fnExactCheckDataRow.holds Tryd.pinned (OpenSpec.ofChange fnExactCheckDataWrong)

/-- 'laws.FnExactSerial': WHATEVER THE INPUT: true; the input reads as it did. -/
def fnExactSerialSpec : ChangeSpec := { name := "fnExactSerial", vars := ["loop.example/s01858/impl.forms"], fn := fun _ => fun
  | [d, g1] => { results := [.lit (.bool true)], args := [d], vars := [g1] }
  | _ => none }
def fnExactSerialRow : OpenClaim := { program := "ytbaajohjglhpfaadoor", sum := "9e4b989fad0c789e972883efc009b8865a9c140d6febe2e6a301856eb8379da0", func := "loop.example/s01858/laws.FnExactSerial", spec := "fnExactSerial", unfollowed := true, recurses := true, named := ["loop.example/s01858/impl.forms", "encoding/binary.BigEndian"], maps := true, apart := false, laid := [("loop.example/s01858/impl.forms", laid_loop_example_s01858_impl_forms)] }
def FnExactSerialSaid : Prop := fnExactSerialRow.holds Tryd.pinned (OpenSpec.ofChange fnExactSerialSpec)

/-- ITS FALSE NEIGHBOUR: 'it returns false'. Refute it at one input. -/
def fnExactSerialWrong : ChangeSpec := { name := "fnExactSerial", vars := ["loop.example/s01858/impl.forms"], fn := fun _ => fun
  | [d, g1] => { results := [.lit (.bool false)], args := [d], vars := [g1] }
  | _ => none }
def FnExactSerialWrongFalsely : Prop := fnExactSerialRow.holds Tryd.pinned (OpenSpec.ofChange fnExactSerialWrong)

/-- 'laws.FnExactWithSerial': WHATEVER THE INPUT: true; the input reads as it did. -/
def fnExactWithSerialSpec : ChangeSpec := { name := "fnExactWithSerial", vars := ["loop.example/s01858/impl.forms"], fn := fun _ => fun
  | [d1, d2, g1] => { results := [.lit (.bool true)], args := [d1, d2], vars := [g1] }
  | _ => none }
def fnExactWithSerialRow : OpenClaim := { program := "ytbaajohjglhpfaadoor", sum := "9e4b989fad0c789e972883efc009b8865a9c140d6febe2e6a301856eb8379da0", func := "loop.example/s01858/laws.FnExactWithSerial", spec := "fnExactWithSerial", unfollowed := true, recurses := true, named := ["loop.example/s01858/impl.forms", "encoding/binary.BigEndian"], maps := true, apart := false, laid := [("loop.example/s01858/impl.forms", laid_loop_example_s01858_impl_forms)] }
def FnExactWithSerialSaid : Prop := fnExactWithSerialRow.holds Tryd.pinned (OpenSpec.ofChange fnExactWithSerialSpec)

/-- ITS FALSE NEIGHBOUR: 'it returns false'. Refute it at one input. -/
def fnExactWithSerialWrong : ChangeSpec := { name := "fnExactWithSerial", vars := ["loop.example/s01858/impl.forms"], fn := fun _ => fun
  | [d1, d2, g1] => { results := [.lit (.bool false)], args := [d1, d2], vars := [g1] }
  | _ => none }
def FnExactWithSerialWrongFalsely : Prop := fnExactWithSerialRow.holds Tryd.pinned (OpenSpec.ofChange fnExactWithSerialWrong)

/-- 'laws.FnExactDataNames': WHATEVER THE INPUT: true; the input reads as it did. -/
def fnExactDataNamesSpec : ChangeSpec := { name := "fnExactDataNames", vars := ["loop.example/s01858/impl.forms"], fn := fun _ => fun
  | [d1, d2, g1] => { results := [.lit (.bool true)], args := [d1, d2], vars := [g1] }
  | _ => none }
def fnExactDataNamesRow : OpenClaim := { program := "ytbaajohjglhpfaadoor", sum := "9e4b989fad0c789e972883efc009b8865a9c140d6febe2e6a301856eb8379da0", func := "loop.example/s01858/laws.FnExactDataNames", spec := "fnExactDataNames", unfollowed := true, recurses := true, named := ["loop.example/s01858/impl.forms"], maps := true, apart := false, laid := [("loop.example/s01858/impl.forms", laid_loop_example_s01858_impl_forms)] }
def FnExactDataNamesSaid : Prop := fnExactDataNamesRow.holds Tryd.pinned (OpenSpec.ofChange fnExactDataNamesSpec)

/-- ITS FALSE NEIGHBOUR: 'it returns false'. Refute it at one input. -/
def fnExactDataNamesWrong : ChangeSpec := { name := "fnExactDataNames", vars := ["loop.example/s01858/impl.forms"], fn := fun _ => fun
  | [d1, d2, g1] => { results := [.lit (.bool false)], args := [d1, d2], vars := [g1] }
  | _ => none }
def FnExactDataNamesWrongFalsely : Prop := fnExactDataNamesRow.holds Tryd.pinned (OpenSpec.ofChange fnExactDataNamesWrong)

/-- 'laws.FnExactFoldData': WHATEVER THE INPUT: true; the input reads as it did. -/
def fnExactFoldDataSpec : ChangeSpec := { name := "fnExactFoldData", vars := ["loop.example/s01858/impl.forms"], fn := fun _ => fun
  | [d1, d2, g1] => { results := [.lit (.bool true)], args := [d1, d2], vars := [g1] }
  | _ => none }
def fnExactFoldDataRow : OpenClaim := { program := "ytbaajohjglhpfaadoor", sum := "9e4b989fad0c789e972883efc009b8865a9c140d6febe2e6a301856eb8379da0", func := "loop.example/s01858/laws.FnExactFoldData", spec := "fnExactFoldData", unfollowed := true, recurses := true, named := ["loop.example/s01858/impl.forms"], maps := true, apart := false, laid := [("loop.example/s01858/impl.forms", laid_loop_example_s01858_impl_forms)] }
def FnExactFoldDataSaid : Prop := fnExactFoldDataRow.holds Tryd.pinned (OpenSpec.ofChange fnExactFoldDataSpec)

/-- ITS FALSE NEIGHBOUR: 'it returns false'. Refute it at one input. -/
def fnExactFoldDataWrong : ChangeSpec := { name := "fnExactFoldData", vars := ["loop.example/s01858/impl.forms"], fn := fun _ => fun
  | [d1, d2, g1] => { results := [.lit (.bool false)], args := [d1, d2], vars := [g1] }
  | _ => none }
def FnExactFoldDataWrongFalsely : Prop := fnExactFoldDataRow.holds Tryd.pinned (OpenSpec.ofChange fnExactFoldDataWrong)

/-- 'laws.FnExactCompareData': WHATEVER THE INPUT: true; the input reads as it did. -/
def fnExactCompareDataSpec : ChangeSpec := { name := "fnExactCompareData", vars := ["loop.example/s01858/impl.forms"], fn := fun _ => fun
  | [d1, d2, d3, g1] => { results := [.lit (.bool true)], args := [d1, d2, d3], vars := [g1] }
  | _ => none }
def fnExactCompareDataRow : OpenClaim := { program := "ytbaajohjglhpfaadoor", sum := "9e4b989fad0c789e972883efc009b8865a9c140d6febe2e6a301856eb8379da0", func := "loop.example/s01858/laws.FnExactCompareData", spec := "fnExactCompareData", inPlace := ["internal/bytealg.abigen_runtime_cmpstring"], unfollowed := true, recurses := true, named := ["loop.example/s01858/impl.forms"], maps := true, apart := false, laid := [("loop.example/s01858/impl.forms", laid_loop_example_s01858_impl_forms)] }
def FnExactCompareDataSaid : Prop := fnExactCompareDataRow.holds Tryd.pinned (OpenSpec.ofChange fnExactCompareDataSpec)

/-- ITS FALSE NEIGHBOUR: 'it returns false'. Refute it at one input. -/
def fnExactCompareDataWrong : ChangeSpec := { name := "fnExactCompareData", vars := ["loop.example/s01858/impl.forms"], fn := fun _ => fun
  | [d1, d2, d3, g1] => { results := [.lit (.bool false)], args := [d1, d2, d3], vars := [g1] }
  | _ => none }
def FnExactCompareDataWrongFalsely : Prop := fnExactCompareDataRow.holds Tryd.pinned (OpenSpec.ofChange fnExactCompareDataWrong)

/- THE SECOND FORM. 'bulk': how many values and letters a reading holds, each counted each time it is reached (what is shared counts as often as it is met; a slice's spare places count too). A statement '..UptoSaid' is the law's where the arguments, and the package variables that the reading takes, are together of bulk at most 1048576: NARROWER than '..Said'. Prove '..Said' where nothing that the law and all that it calls make is longer than what came in: it says more and counts as full. Else prove '..UptoSaid'. A law counts once. -/
mutual
def uptoBulk {H : Type} : DataW H → Nat
  | .lit (.string bytes) => bytes.length + 1
  | .lit _ => 1
  | .nil => 1
  | .ptr d => uptoBulk d + 1
  | .slice elems spare => uptoBulkAll elems + uptoBulkAll spare + 1
  | .agg parts => uptoBulkAll parts + 1
  | .iface _ d => uptoBulk d + 1
  | .map entries => uptoBulkEntries entries + 1
  | .held _ => 1
def uptoBulkAll {H : Type} : List (DataW H) → Nat
  | [] => 0
  | d :: r => uptoBulk d + uptoBulkAll r
def uptoBulkEntries {H : Type} : List (Lit × DataW H) → Nat
  | [] => 0
  | x :: r => uptoBulkEntry x + uptoBulkEntries r
def uptoBulkEntry {H : Type} : Lit × DataW H → Nat
  | (.string bytes, d) => bytes.length + uptoBulk d + 1
  | (_, d) => uptoBulk d + 1
 end
def uptoSmall : (H : Type) → List (DataW H) → Bool := fun _ ds => decide (uptoBulkAll ds ≤ 1048576)
def OpenSpec.upto (s : _root_.Go.ChangeSpec) : _root_.Go.OpenSpec := { _root_.Go.OpenSpec.ofChange s with cond := some uptoSmall }

/-- 'laws.FnExactCheckData', WHERE WHAT IT READS IS OF BULK AT MOST 1048576: true; the input reads as it did. -/
def fnExactCheckDataUptoRow : OpenClaim := { program := "ytbaajohjglhpfaadoor", sum := "9e4b989fad0c789e972883efc009b8865a9c140d6febe2e6a301856eb8379da0", func := "loop.example/s01858/laws.FnExactCheckData", spec := "fnExactCheckData", unfollowed := true, recurses := true, named := ["loop.example/s01858/impl.forms"], maps := true, apart := false, laid := [("loop.example/s01858/impl.forms", laid_loop_example_s01858_impl_forms)], narrowed := true }
def FnExactCheckDataUptoSaid : Prop := fnExactCheckDataUptoRow.holds Tryd.pinned (OpenSpec.upto fnExactCheckDataSpec)

/-- 'laws.FnExactSerial', WHERE WHAT IT READS IS OF BULK AT MOST 1048576: true; the input reads as it did. -/
def fnExactSerialUptoRow : OpenClaim := { program := "ytbaajohjglhpfaadoor", sum := "9e4b989fad0c789e972883efc009b8865a9c140d6febe2e6a301856eb8379da0", func := "loop.example/s01858/laws.FnExactSerial", spec := "fnExactSerial", unfollowed := true, recurses := true, named := ["loop.example/s01858/impl.forms", "encoding/binary.BigEndian"], maps := true, apart := false, laid := [("loop.example/s01858/impl.forms", laid_loop_example_s01858_impl_forms)], narrowed := true }
def FnExactSerialUptoSaid : Prop := fnExactSerialUptoRow.holds Tryd.pinned (OpenSpec.upto fnExactSerialSpec)

/-- 'laws.FnExactWithSerial', WHERE WHAT IT READS IS OF BULK AT MOST 1048576: true; the input reads as it did. -/
def fnExactWithSerialUptoRow : OpenClaim := { program := "ytbaajohjglhpfaadoor", sum := "9e4b989fad0c789e972883efc009b8865a9c140d6febe2e6a301856eb8379da0", func := "loop.example/s01858/laws.FnExactWithSerial", spec := "fnExactWithSerial", unfollowed := true, recurses := true, named := ["loop.example/s01858/impl.forms", "encoding/binary.BigEndian"], maps := true, apart := false, laid := [("loop.example/s01858/impl.forms", laid_loop_example_s01858_impl_forms)], narrowed := true }
def FnExactWithSerialUptoSaid : Prop := fnExactWithSerialUptoRow.holds Tryd.pinned (OpenSpec.upto fnExactWithSerialSpec)

/-- 'laws.FnExactDataNames', WHERE WHAT IT READS IS OF BULK AT MOST 1048576: true; the input reads as it did. -/
def fnExactDataNamesUptoRow : OpenClaim := { program := "ytbaajohjglhpfaadoor", sum := "9e4b989fad0c789e972883efc009b8865a9c140d6febe2e6a301856eb8379da0", func := "loop.example/s01858/laws.FnExactDataNames", spec := "fnExactDataNames", unfollowed := true, recurses := true, named := ["loop.example/s01858/impl.forms"], maps := true, apart := false, laid := [("loop.example/s01858/impl.forms", laid_loop_example_s01858_impl_forms)], narrowed := true }
def FnExactDataNamesUptoSaid : Prop := fnExactDataNamesUptoRow.holds Tryd.pinned (OpenSpec.upto fnExactDataNamesSpec)

/-- 'laws.FnExactFoldData', WHERE WHAT IT READS IS OF BULK AT MOST 1048576: true; the input reads as it did. -/
def fnExactFoldDataUptoRow : OpenClaim := { program := "ytbaajohjglhpfaadoor", sum := "9e4b989fad0c789e972883efc009b8865a9c140d6febe2e6a301856eb8379da0", func := "loop.example/s01858/laws.FnExactFoldData", spec := "fnExactFoldData", unfollowed := true, recurses := true, named := ["loop.example/s01858/impl.forms"], maps := true, apart := false, laid := [("loop.example/s01858/impl.forms", laid_loop_example_s01858_impl_forms)], narrowed := true }
def FnExactFoldDataUptoSaid : Prop := fnExactFoldDataUptoRow.holds Tryd.pinned (OpenSpec.upto fnExactFoldDataSpec)

/-- 'laws.FnExactCompareData', WHERE WHAT IT READS IS OF BULK AT MOST 1048576: true; the input reads as it did. -/
def fnExactCompareDataUptoRow : OpenClaim := { program := "ytbaajohjglhpfaadoor", sum := "9e4b989fad0c789e972883efc009b8865a9c140d6febe2e6a301856eb8379da0", func := "loop.example/s01858/laws.FnExactCompareData", spec := "fnExactCompareData", inPlace := ["internal/bytealg.abigen_runtime_cmpstring"], unfollowed := true, recurses := true, named := ["loop.example/s01858/impl.forms"], maps := true, apart := false, laid := [("loop.example/s01858/impl.forms", laid_loop_example_s01858_impl_forms)], narrowed := true }
def FnExactCompareDataUptoSaid : Prop := fnExactCompareDataUptoRow.holds Tryd.pinned (OpenSpec.upto fnExactCompareDataSpec)

end Rows
end Go.Proofs.YtbaajohjglhpfaaDoor
