/-
  No cell of these rows narrows 'for every input' (looked for: loops, veiled, ifaces, maps, wideKeys, modest, calm, conditions, laid).
  DERIVED. THE GIVEN ROWS OF THIS SEAT. 12 by the template 'for every input the law returns true; each argument reads behind the call as it read before'; 0 by the template 'total and deterministic' (their statements: YtelmbgholdnaaaaTotals.lean).
  GIVEN WITH THE SEED: the statements are not yours to turn. If you find one false, say at which input.
  Laid BY PROGRAM, IN A SANDBOX (cutbox-rows.mjs): the forced cells as the released guide's own fill.sh prints them over the translation 767035ae832c5a9f… (all of the seat's roots in one cut). By AI agents, Wed Nov 11 2026. No macro, syntax, notation, axiom, sorry.
-/
import Derived.Test.YtelmbgholdnaaaaChecked
import GoSem.Claim
import GoSem.ClaimJoined
import GoSem.ClaimMapViews
import Derived.JoinedTies
import Derived.KernelRfl
namespace Go.Proofs.Ytelmbgholdnaaaa
/- THE CELL 'sum', in the pinned program and in every row, IS THE sha256 OF THE DUMP (.gsa) THAT YtelmbgholdnaaaaProg.lean LOADS. Nothing in Lean hashes anything: it is a label: what it is worth is what the hold of that sum in a sandbox is worth. -/
noncomputable def Try.pinned : Pinned := { name := "ytelmbgholdnaaaa", sum := "767035ae832c5a9f23eb22b3918acb1f9d8a3efec2cf6bff3f06e84734b397bb", checked := Try.checked }
namespace Rows
def none {H : Type} : Left H := { results := [], args := [] }

/-- 'laws.FnExactConstants': WHATEVER THE INPUT: true; the input reads as it did. -/
def fnExactConstantsSpec : ChangeSpec := { name := "fnExactConstants", fn := fun _ => fun
  | [] => { results := [.lit (.bool true)], args := [] }
  | _ => none }
def fnExactConstantsRow : OpenClaim := { program := "ytelmbgholdnaaaa", sum := "767035ae832c5a9f23eb22b3918acb1f9d8a3efec2cf6bff3f06e84734b397bb", func := "loop.example/s01858/laws.FnExactConstants", spec := "fnExactConstants", apart := false }
def FnExactConstantsSaid : Prop := fnExactConstantsRow.holds Try.pinned (OpenSpec.ofChange fnExactConstantsSpec)

/-- ITS FALSE NEIGHBOUR: 'it returns false'. Refute it at one input. -/
def fnExactConstantsWrong : ChangeSpec := { name := "fnExactConstants", fn := fun _ => fun
  | [] => { results := [.lit (.bool false)], args := [] }
  | _ => none }
def FnExactConstantsWrongFalsely : Prop := fnExactConstantsRow.holds Try.pinned (OpenSpec.ofChange fnExactConstantsWrong)

/-- 'laws.FnExactSerialLess': WHATEVER THE INPUT: true; the input reads as it did. -/
def fnExactSerialLessSpec : ChangeSpec := { name := "fnExactSerialLess", fn := fun _ => fun
  | [d1, d2] => { results := [.lit (.bool true)], args := [d1, d2] }
  | _ => none }
def fnExactSerialLessRow : OpenClaim := { program := "ytelmbgholdnaaaa", sum := "767035ae832c5a9f23eb22b3918acb1f9d8a3efec2cf6bff3f06e84734b397bb", func := "loop.example/s01858/laws.FnExactSerialLess", spec := "fnExactSerialLess", apart := false }
def FnExactSerialLessSaid : Prop := fnExactSerialLessRow.holds Try.pinned (OpenSpec.ofChange fnExactSerialLessSpec)

/-- ITS FALSE NEIGHBOUR: 'it returns false'. Refute it at one input. -/
def fnExactSerialLessWrong : ChangeSpec := { name := "fnExactSerialLess", fn := fun _ => fun
  | [d1, d2] => { results := [.lit (.bool false)], args := [d1, d2] }
  | _ => none }
def FnExactSerialLessWrongFalsely : Prop := fnExactSerialLessRow.holds Try.pinned (OpenSpec.ofChange fnExactSerialLessWrong)

/-- 'laws.FnExactNextSerial': WHATEVER THE INPUT: true; the input reads as it did. -/
def fnExactNextSerialSpec : ChangeSpec := { name := "fnExactNextSerial", fn := fun _ => fun
  | [d] => { results := [.lit (.bool true)], args := [d] }
  | _ => none }
def fnExactNextSerialRow : OpenClaim := { program := "ytelmbgholdnaaaa", sum := "767035ae832c5a9f23eb22b3918acb1f9d8a3efec2cf6bff3f06e84734b397bb", func := "loop.example/s01858/laws.FnExactNextSerial", spec := "fnExactNextSerial", apart := false }
def FnExactNextSerialSaid : Prop := fnExactNextSerialRow.holds Try.pinned (OpenSpec.ofChange fnExactNextSerialSpec)

/-- ITS FALSE NEIGHBOUR: 'it returns false'. Refute it at one input. -/
def fnExactNextSerialWrong : ChangeSpec := { name := "fnExactNextSerial", fn := fun _ => fun
  | [d] => { results := [.lit (.bool false)], args := [d] }
  | _ => none }
def FnExactNextSerialWrongFalsely : Prop := fnExactNextSerialRow.holds Try.pinned (OpenSpec.ofChange fnExactNextSerialWrong)

/-- 'laws.FnExactNameOK': WHATEVER THE INPUT: true; the input reads as it did. -/
def fnExactNameOKSpec : ChangeSpec := { name := "fnExactNameOK", fn := fun _ => fun
  | [d] => { results := [.lit (.bool true)], args := [d] }
  | _ => none }
def fnExactNameOKRow : OpenClaim := { program := "ytelmbgholdnaaaa", sum := "767035ae832c5a9f23eb22b3918acb1f9d8a3efec2cf6bff3f06e84734b397bb", func := "loop.example/s01858/laws.FnExactNameOK", spec := "fnExactNameOK", apart := false }
def FnExactNameOKSaid : Prop := fnExactNameOKRow.holds Try.pinned (OpenSpec.ofChange fnExactNameOKSpec)

/-- ITS FALSE NEIGHBOUR: 'it returns false'. Refute it at one input. -/
def fnExactNameOKWrong : ChangeSpec := { name := "fnExactNameOK", fn := fun _ => fun
  | [d] => { results := [.lit (.bool false)], args := [d] }
  | _ => none }
def FnExactNameOKWrongFalsely : Prop := fnExactNameOKRow.holds Try.pinned (OpenSpec.ofChange fnExactNameOKWrong)

/-- 'laws.FnExactReadText': WHATEVER THE INPUT: true; the input reads as it did. -/
def fnExactReadTextSpec : ChangeSpec := { name := "fnExactReadText", fn := fun _ => fun
  | [d] => { results := [.lit (.bool true)], args := [d] }
  | _ => none }
def fnExactReadTextRow : OpenClaim := { program := "ytelmbgholdnaaaa", sum := "767035ae832c5a9f23eb22b3918acb1f9d8a3efec2cf6bff3f06e84734b397bb", func := "loop.example/s01858/laws.FnExactReadText", spec := "fnExactReadText", apart := false }
def FnExactReadTextSaid : Prop := fnExactReadTextRow.holds Try.pinned (OpenSpec.ofChange fnExactReadTextSpec)

/-- ITS FALSE NEIGHBOUR: 'it returns false'. Refute it at one input. -/
def fnExactReadTextWrong : ChangeSpec := { name := "fnExactReadText", fn := fun _ => fun
  | [d] => { results := [.lit (.bool false)], args := [d] }
  | _ => none }
def FnExactReadTextWrongFalsely : Prop := fnExactReadTextRow.holds Try.pinned (OpenSpec.ofChange fnExactReadTextWrong)

/-- 'laws.FnExactMapTypes': WHATEVER THE INPUT: true; the input reads as it did. -/
def fnExactMapTypesSpec : ChangeSpec := { name := "fnExactMapTypes", fn := fun _ => fun
  | [d] => { results := [.lit (.bool true)], args := [d] }
  | _ => none }
def fnExactMapTypesRow : OpenClaim := { program := "ytelmbgholdnaaaa", sum := "767035ae832c5a9f23eb22b3918acb1f9d8a3efec2cf6bff3f06e84734b397bb", func := "loop.example/s01858/laws.FnExactMapTypes", spec := "fnExactMapTypes", apart := false }
def FnExactMapTypesSaid : Prop := fnExactMapTypesRow.holds Try.pinned (OpenSpec.ofChange fnExactMapTypesSpec)

/-- ITS FALSE NEIGHBOUR: 'it returns false'. Refute it at one input. -/
def fnExactMapTypesWrong : ChangeSpec := { name := "fnExactMapTypes", fn := fun _ => fun
  | [d] => { results := [.lit (.bool false)], args := [d] }
  | _ => none }
def FnExactMapTypesWrongFalsely : Prop := fnExactMapTypesRow.holds Try.pinned (OpenSpec.ofChange fnExactMapTypesWrong)

/-- 'laws.FnExactSameName': WHATEVER THE INPUT: true; the input reads as it did. -/
def fnExactSameNameSpec : ChangeSpec := { name := "fnExactSameName", fn := fun _ => fun
  | [d1, d2] => { results := [.lit (.bool true)], args := [d1, d2] }
  | _ => none }
def fnExactSameNameRow : OpenClaim := { program := "ytelmbgholdnaaaa", sum := "767035ae832c5a9f23eb22b3918acb1f9d8a3efec2cf6bff3f06e84734b397bb", func := "loop.example/s01858/laws.FnExactSameName", spec := "fnExactSameName", apart := false }
def FnExactSameNameSaid : Prop := fnExactSameNameRow.holds Try.pinned (OpenSpec.ofChange fnExactSameNameSpec)

/-- ITS FALSE NEIGHBOUR: 'it returns false'. Refute it at one input. -/
def fnExactSameNameWrong : ChangeSpec := { name := "fnExactSameName", fn := fun _ => fun
  | [d1, d2] => { results := [.lit (.bool false)], args := [d1, d2] }
  | _ => none }
def FnExactSameNameWrongFalsely : Prop := fnExactSameNameRow.holds Try.pinned (OpenSpec.ofChange fnExactSameNameWrong)

/-- 'laws.FnExactFoldName': WHATEVER THE INPUT: true; the input reads as it did. -/
def fnExactFoldNameSpec : ChangeSpec := { name := "fnExactFoldName", fn := fun _ => fun
  | [d] => { results := [.lit (.bool true)], args := [d] }
  | _ => none }
def fnExactFoldNameRow : OpenClaim := { program := "ytelmbgholdnaaaa", sum := "767035ae832c5a9f23eb22b3918acb1f9d8a3efec2cf6bff3f06e84734b397bb", func := "loop.example/s01858/laws.FnExactFoldName", spec := "fnExactFoldName", apart := false }
def FnExactFoldNameSaid : Prop := fnExactFoldNameRow.holds Try.pinned (OpenSpec.ofChange fnExactFoldNameSpec)

/-- ITS FALSE NEIGHBOUR: 'it returns false'. Refute it at one input. -/
def fnExactFoldNameWrong : ChangeSpec := { name := "fnExactFoldName", fn := fun _ => fun
  | [d] => { results := [.lit (.bool false)], args := [d] }
  | _ => none }
def FnExactFoldNameWrongFalsely : Prop := fnExactFoldNameRow.holds Try.pinned (OpenSpec.ofChange fnExactFoldNameWrong)

/-- 'laws.FnExactLabels': WHATEVER THE INPUT: true; the input reads as it did. -/
def fnExactLabelsSpec : ChangeSpec := { name := "fnExactLabels", fn := fun _ => fun
  | [d] => { results := [.lit (.bool true)], args := [d] }
  | _ => none }
def fnExactLabelsRow : OpenClaim := { program := "ytelmbgholdnaaaa", sum := "767035ae832c5a9f23eb22b3918acb1f9d8a3efec2cf6bff3f06e84734b397bb", func := "loop.example/s01858/laws.FnExactLabels", spec := "fnExactLabels", apart := false }
def FnExactLabelsSaid : Prop := fnExactLabelsRow.holds Try.pinned (OpenSpec.ofChange fnExactLabelsSpec)

/-- ITS FALSE NEIGHBOUR: 'it returns false'. Refute it at one input. -/
def fnExactLabelsWrong : ChangeSpec := { name := "fnExactLabels", fn := fun _ => fun
  | [d] => { results := [.lit (.bool false)], args := [d] }
  | _ => none }
def FnExactLabelsWrongFalsely : Prop := fnExactLabelsRow.holds Try.pinned (OpenSpec.ofChange fnExactLabelsWrong)

/-- 'laws.FnExactAncestor': WHATEVER THE INPUT: true; the input reads as it did. -/
def fnExactAncestorSpec : ChangeSpec := { name := "fnExactAncestor", fn := fun _ => fun
  | [d1, d2] => { results := [.lit (.bool true)], args := [d1, d2] }
  | _ => none }
def fnExactAncestorRow : OpenClaim := { program := "ytelmbgholdnaaaa", sum := "767035ae832c5a9f23eb22b3918acb1f9d8a3efec2cf6bff3f06e84734b397bb", func := "loop.example/s01858/laws.FnExactAncestor", spec := "fnExactAncestor", inPlace := ["internal/abi.NoEscape"], apart := false }
def FnExactAncestorSaid : Prop := fnExactAncestorRow.holds Try.pinned (OpenSpec.ofChange fnExactAncestorSpec)

/-- ITS FALSE NEIGHBOUR: 'it returns false'. Refute it at one input. -/
def fnExactAncestorWrong : ChangeSpec := { name := "fnExactAncestor", fn := fun _ => fun
  | [d1, d2] => { results := [.lit (.bool false)], args := [d1, d2] }
  | _ => none }
def FnExactAncestorWrongFalsely : Prop := fnExactAncestorRow.holds Try.pinned (OpenSpec.ofChange fnExactAncestorWrong)

/-- 'laws.FnExactMakeName': WHATEVER THE INPUT: true; the input reads as it did. -/
def fnExactMakeNameSpec : ChangeSpec := { name := "fnExactMakeName", fn := fun _ => fun
  | [d] => { results := [.lit (.bool true)], args := [d] }
  | _ => none }
def fnExactMakeNameRow : OpenClaim := { program := "ytelmbgholdnaaaa", sum := "767035ae832c5a9f23eb22b3918acb1f9d8a3efec2cf6bff3f06e84734b397bb", func := "loop.example/s01858/laws.FnExactMakeName", spec := "fnExactMakeName", inPlace := ["internal/abi.NoEscape"], apart := false }
def FnExactMakeNameSaid : Prop := fnExactMakeNameRow.holds Try.pinned (OpenSpec.ofChange fnExactMakeNameSpec)

/-- ITS FALSE NEIGHBOUR: 'it returns false'. Refute it at one input. -/
def fnExactMakeNameWrong : ChangeSpec := { name := "fnExactMakeName", fn := fun _ => fun
  | [d] => { results := [.lit (.bool false)], args := [d] }
  | _ => none }
def FnExactMakeNameWrongFalsely : Prop := fnExactMakeNameRow.holds Try.pinned (OpenSpec.ofChange fnExactMakeNameWrong)

/-- 'laws.FnExactCompareNames': WHATEVER THE INPUT: true; the input reads as it did. -/
def fnExactCompareNamesSpec : ChangeSpec := { name := "fnExactCompareNames", fn := fun _ => fun
  | [d1, d2] => { results := [.lit (.bool true)], args := [d1, d2] }
  | _ => none }
def fnExactCompareNamesRow : OpenClaim := { program := "ytelmbgholdnaaaa", sum := "767035ae832c5a9f23eb22b3918acb1f9d8a3efec2cf6bff3f06e84734b397bb", func := "loop.example/s01858/laws.FnExactCompareNames", spec := "fnExactCompareNames", inPlace := ["internal/bytealg.abigen_runtime_cmpstring"], apart := false }
def FnExactCompareNamesSaid : Prop := fnExactCompareNamesRow.holds Try.pinned (OpenSpec.ofChange fnExactCompareNamesSpec)

/-- ITS FALSE NEIGHBOUR: 'it returns false'. Refute it at one input. -/
def fnExactCompareNamesWrong : ChangeSpec := { name := "fnExactCompareNames", fn := fun _ => fun
  | [d1, d2] => { results := [.lit (.bool false)], args := [d1, d2] }
  | _ => none }
def FnExactCompareNamesWrongFalsely : Prop := fnExactCompareNamesRow.holds Try.pinned (OpenSpec.ofChange fnExactCompareNamesWrong)

/- THE SECOND FORM. 'bulk': how many values and letters a reading holds, each counted each time it is reached (what is shared counts as often as it is met; a slice's spare places count too). A statement '..UptoSaid' is the law's where the arguments, and the package variables that the reading takes, are together of bulk at most 1048576: NARROWER than '..Said'. Prove '..Said' where nothing that the law and all that it calls make is longer than what came in: it says more and counts as full. Else prove '..UptoSaid'. A law counts once. -/
mutual
def uptoBulk {H : Type} : DataW H → Nat
  | .lit (.string bytes) => bytes.length + 1
  | .lit _ => 1
  | .nil => 1
  | .ptr d => uptoBulk d + 1
  | .slice elems spare => uptoBulkAll elems + uptoBulkAll spare + 1
  | .agg parts => uptoBulkAll parts + 1
  | .iface _ d => uptoBulk d + 1
  | .map entries => uptoBulkEntries entries + 1
  | .held _ => 1
def uptoBulkAll {H : Type} : List (DataW H) → Nat
  | [] => 0
  | d :: r => uptoBulk d + uptoBulkAll r
def uptoBulkEntries {H : Type} : List (Lit × DataW H) → Nat
  | [] => 0
  | x :: r => uptoBulkEntry x + uptoBulkEntries r
def uptoBulkEntry {H : Type} : Lit × DataW H → Nat
  | (.string bytes, d) => bytes.length + uptoBulk d + 1
  | (_, d) => uptoBulk d + 1
 end
def uptoSmall : (H : Type) → List (DataW H) → Bool := fun _ ds => decide (uptoBulkAll ds ≤ 1048576)
def OpenSpec.upto (s : _root_.Go.ChangeSpec) : _root_.Go.OpenSpec := { _root_.Go.OpenSpec.ofChange s with cond := some uptoSmall }

/-- 'laws.FnExactConstants', WHERE WHAT IT READS IS OF BULK AT MOST 1048576: true; the input reads as it did. -/
def fnExactConstantsUptoRow : OpenClaim := { program := "ytelmbgholdnaaaa", sum := "767035ae832c5a9f23eb22b3918acb1f9d8a3efec2cf6bff3f06e84734b397bb", func := "loop.example/s01858/laws.FnExactConstants", spec := "fnExactConstants", apart := false, narrowed := true }
def FnExactConstantsUptoSaid : Prop := fnExactConstantsUptoRow.holds Try.pinned (OpenSpec.upto fnExactConstantsSpec)

/-- 'laws.FnExactSerialLess', WHERE WHAT IT READS IS OF BULK AT MOST 1048576: true; the input reads as it did. -/
def fnExactSerialLessUptoRow : OpenClaim := { program := "ytelmbgholdnaaaa", sum := "767035ae832c5a9f23eb22b3918acb1f9d8a3efec2cf6bff3f06e84734b397bb", func := "loop.example/s01858/laws.FnExactSerialLess", spec := "fnExactSerialLess", apart := false, narrowed := true }
def FnExactSerialLessUptoSaid : Prop := fnExactSerialLessUptoRow.holds Try.pinned (OpenSpec.upto fnExactSerialLessSpec)

/-- 'laws.FnExactNextSerial', WHERE WHAT IT READS IS OF BULK AT MOST 1048576: true; the input reads as it did. -/
def fnExactNextSerialUptoRow : OpenClaim := { program := "ytelmbgholdnaaaa", sum := "767035ae832c5a9f23eb22b3918acb1f9d8a3efec2cf6bff3f06e84734b397bb", func := "loop.example/s01858/laws.FnExactNextSerial", spec := "fnExactNextSerial", apart := false, narrowed := true }
def FnExactNextSerialUptoSaid : Prop := fnExactNextSerialUptoRow.holds Try.pinned (OpenSpec.upto fnExactNextSerialSpec)

/-- 'laws.FnExactNameOK', WHERE WHAT IT READS IS OF BULK AT MOST 1048576: true; the input reads as it did. -/
def fnExactNameOKUptoRow : OpenClaim := { program := "ytelmbgholdnaaaa", sum := "767035ae832c5a9f23eb22b3918acb1f9d8a3efec2cf6bff3f06e84734b397bb", func := "loop.example/s01858/laws.FnExactNameOK", spec := "fnExactNameOK", apart := false, narrowed := true }
def FnExactNameOKUptoSaid : Prop := fnExactNameOKUptoRow.holds Try.pinned (OpenSpec.upto fnExactNameOKSpec)

/-- 'laws.FnExactReadText', WHERE WHAT IT READS IS OF BULK AT MOST 1048576: true; the input reads as it did. -/
def fnExactReadTextUptoRow : OpenClaim := { program := "ytelmbgholdnaaaa", sum := "767035ae832c5a9f23eb22b3918acb1f9d8a3efec2cf6bff3f06e84734b397bb", func := "loop.example/s01858/laws.FnExactReadText", spec := "fnExactReadText", apart := false, narrowed := true }
def FnExactReadTextUptoSaid : Prop := fnExactReadTextUptoRow.holds Try.pinned (OpenSpec.upto fnExactReadTextSpec)

/-- 'laws.FnExactMapTypes', WHERE WHAT IT READS IS OF BULK AT MOST 1048576: true; the input reads as it did. -/
def fnExactMapTypesUptoRow : OpenClaim := { program := "ytelmbgholdnaaaa", sum := "767035ae832c5a9f23eb22b3918acb1f9d8a3efec2cf6bff3f06e84734b397bb", func := "loop.example/s01858/laws.FnExactMapTypes", spec := "fnExactMapTypes", apart := false, narrowed := true }
def FnExactMapTypesUptoSaid : Prop := fnExactMapTypesUptoRow.holds Try.pinned (OpenSpec.upto fnExactMapTypesSpec)

/-- 'laws.FnExactSameName', WHERE WHAT IT READS IS OF BULK AT MOST 1048576: true; the input reads as it did. -/
def fnExactSameNameUptoRow : OpenClaim := { program := "ytelmbgholdnaaaa", sum := "767035ae832c5a9f23eb22b3918acb1f9d8a3efec2cf6bff3f06e84734b397bb", func := "loop.example/s01858/laws.FnExactSameName", spec := "fnExactSameName", apart := false, narrowed := true }
def FnExactSameNameUptoSaid : Prop := fnExactSameNameUptoRow.holds Try.pinned (OpenSpec.upto fnExactSameNameSpec)

/-- 'laws.FnExactFoldName', WHERE WHAT IT READS IS OF BULK AT MOST 1048576: true; the input reads as it did. -/
def fnExactFoldNameUptoRow : OpenClaim := { program := "ytelmbgholdnaaaa", sum := "767035ae832c5a9f23eb22b3918acb1f9d8a3efec2cf6bff3f06e84734b397bb", func := "loop.example/s01858/laws.FnExactFoldName", spec := "fnExactFoldName", apart := false, narrowed := true }
def FnExactFoldNameUptoSaid : Prop := fnExactFoldNameUptoRow.holds Try.pinned (OpenSpec.upto fnExactFoldNameSpec)

/-- 'laws.FnExactLabels', WHERE WHAT IT READS IS OF BULK AT MOST 1048576: true; the input reads as it did. -/
def fnExactLabelsUptoRow : OpenClaim := { program := "ytelmbgholdnaaaa", sum := "767035ae832c5a9f23eb22b3918acb1f9d8a3efec2cf6bff3f06e84734b397bb", func := "loop.example/s01858/laws.FnExactLabels", spec := "fnExactLabels", apart := false, narrowed := true }
def FnExactLabelsUptoSaid : Prop := fnExactLabelsUptoRow.holds Try.pinned (OpenSpec.upto fnExactLabelsSpec)

/-- 'laws.FnExactAncestor', WHERE WHAT IT READS IS OF BULK AT MOST 1048576: true; the input reads as it did. -/
def fnExactAncestorUptoRow : OpenClaim := { program := "ytelmbgholdnaaaa", sum := "767035ae832c5a9f23eb22b3918acb1f9d8a3efec2cf6bff3f06e84734b397bb", func := "loop.example/s01858/laws.FnExactAncestor", spec := "fnExactAncestor", inPlace := ["internal/abi.NoEscape"], apart := false, narrowed := true }
def FnExactAncestorUptoSaid : Prop := fnExactAncestorUptoRow.holds Try.pinned (OpenSpec.upto fnExactAncestorSpec)

/-- 'laws.FnExactMakeName', WHERE WHAT IT READS IS OF BULK AT MOST 1048576: true; the input reads as it did. -/
def fnExactMakeNameUptoRow : OpenClaim := { program := "ytelmbgholdnaaaa", sum := "767035ae832c5a9f23eb22b3918acb1f9d8a3efec2cf6bff3f06e84734b397bb", func := "loop.example/s01858/laws.FnExactMakeName", spec := "fnExactMakeName", inPlace := ["internal/abi.NoEscape"], apart := false, narrowed := true }
def FnExactMakeNameUptoSaid : Prop := fnExactMakeNameUptoRow.holds Try.pinned (OpenSpec.upto fnExactMakeNameSpec)

/-- 'laws.FnExactCompareNames', WHERE WHAT IT READS IS OF BULK AT MOST 1048576: true; the input reads as it did. -/
def fnExactCompareNamesUptoRow : OpenClaim := { program := "ytelmbgholdnaaaa", sum := "767035ae832c5a9f23eb22b3918acb1f9d8a3efec2cf6bff3f06e84734b397bb", func := "loop.example/s01858/laws.FnExactCompareNames", spec := "fnExactCompareNames", inPlace := ["internal/bytealg.abigen_runtime_cmpstring"], apart := false, narrowed := true }
def FnExactCompareNamesUptoSaid : Prop := fnExactCompareNamesUptoRow.holds Try.pinned (OpenSpec.upto fnExactCompareNamesSpec)

end Rows
end Go.Proofs.Ytelmbgholdnaaaa
