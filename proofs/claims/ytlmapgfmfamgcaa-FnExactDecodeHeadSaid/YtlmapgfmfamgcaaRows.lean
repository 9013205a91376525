/-
  No cell of these rows narrows 'for every input' (looked for: loops, veiled, ifaces, maps, wideKeys, modest, calm, conditions, laid).
  DERIVED. THE GIVEN ROWS OF THIS SEAT. 2 by the template 'for every input the law returns true; each argument reads behind the call as it read before'; 0 by the template 'total and deterministic' (their statements: YtlmapgfmfamgcaaTotals.lean).
  GIVEN WITH THE SEED: the statements are not yours to turn. If you find one false, say at which input.
  Laid BY PROGRAM, IN A SANDBOX (cutbox-rows.mjs): the forced cells as the released guide's own fill.sh prints them over the translation 16293069b1d19242… (all of the seat's roots in one cut). By AI agents, Wed Nov 11 2026. No macro, syntax, notation, axiom, sorry.
-/
import Derived.Test.YtlmapgfmfamgcaaChecked
import GoSem.Claim
import GoSem.ClaimJoined
import GoSem.ClaimMapViews
import Derived.JoinedTies
import Derived.KernelRfl
namespace Go.Proofs.Ytlmapgfmfamgcaa
/- THE CELL 'sum', in the pinned program and in every row, IS THE sha256 OF THE DUMP (.gsa) THAT YtlmapgfmfamgcaaProg.lean LOADS. Nothing in Lean hashes anything: it is a label: what it is worth is what the hold of that sum in a sandbox is worth. -/
noncomputable def Try.pinned : Pinned := { name := "ytlmapgfmfamgcaa", sum := "16293069b1d19242279a532714d173bbc58ff34e7d5dbee77e1e43036fc16cc8", checked := Try.checked }
namespace Rows
def none {H : Type} : Left H := { results := [], args := [] }

/-- 'laws.FnExactDecodeHead': WHATEVER THE INPUT: true; the input reads as it did. -/
def fnExactDecodeHeadSpec : ChangeSpec := { name := "fnExactDecodeHead", fn := fun _ => fun
  | [d] => { results := [.lit (.bool true)], args := [d] }
  | _ => none }
def fnExactDecodeHeadRow : OpenClaim := { program := "ytlmapgfmfamgcaa", sum := "16293069b1d19242279a532714d173bbc58ff34e7d5dbee77e1e43036fc16cc8", func := "loop.example/s01858/laws.FnExactDecodeHead", spec := "fnExactDecodeHead", apart := false }
def FnExactDecodeHeadSaid : Prop := fnExactDecodeHeadRow.holds Try.pinned (OpenSpec.ofChange fnExactDecodeHeadSpec)

/-- ITS FALSE NEIGHBOUR: 'it returns false'. Refute it at one input. -/
def fnExactDecodeHeadWrong : ChangeSpec := { name := "fnExactDecodeHead", fn := fun _ => fun
  | [d] => { results := [.lit (.bool false)], args := [d] }
  | _ => none }
def FnExactDecodeHeadWrongFalsely : Prop := fnExactDecodeHeadRow.holds Try.pinned (OpenSpec.ofChange fnExactDecodeHeadWrong)

/-- 'laws.FnExactDecodeName': WHATEVER THE INPUT: true; the input reads as it did. -/
def fnExactDecodeNameSpec : ChangeSpec := { name := "fnExactDecodeName", fn := fun _ => fun
  | [d1, d2] => { results := [.lit (.bool true)], args := [d1, d2] }
  | _ => none }
def fnExactDecodeNameRow : OpenClaim := { program := "ytlmapgfmfamgcaa", sum := "16293069b1d19242279a532714d173bbc58ff34e7d5dbee77e1e43036fc16cc8", func := "loop.example/s01858/laws.FnExactDecodeName", spec := "fnExactDecodeName", apart := false }
def FnExactDecodeNameSaid : Prop := fnExactDecodeNameRow.holds Try.pinned (OpenSpec.ofChange fnExactDecodeNameSpec)

/-- ITS FALSE NEIGHBOUR: 'it returns false'. Refute it at one input. -/
def fnExactDecodeNameWrong : ChangeSpec := { name := "fnExactDecodeName", fn := fun _ => fun
  | [d1, d2] => { results := [.lit (.bool false)], args := [d1, d2] }
  | _ => none }
def FnExactDecodeNameWrongFalsely : Prop := fnExactDecodeNameRow.holds Try.pinned (OpenSpec.ofChange fnExactDecodeNameWrong)

/- THE SECOND FORM. 'bulk': how many values and letters a reading holds, each counted each time it is reached (what is shared counts as often as it is met; a slice's spare places count too). A statement '..UptoSaid' is the law's where the arguments, and the package variables that the reading takes, are together of bulk at most 1048576: NARROWER than '..Said'. Prove '..Said' where nothing that the law and all that it calls make is longer than what came in: it says more and counts as full. Else prove '..UptoSaid'. A law counts once. -/
mutual
def uptoBulk {H : Type} : DataW H → Nat
  | .lit (.string bytes) => bytes.length + 1
  | .lit _ => 1
  | .nil => 1
  | .ptr d => uptoBulk d + 1
  | .slice elems spare => uptoBulkAll elems + uptoBulkAll spare + 1
  | .agg parts => uptoBulkAll parts + 1
  | .iface _ d => uptoBulk d + 1
  | .map entries => uptoBulkEntries entries + 1
  | .held _ => 1
def uptoBulkAll {H : Type} : List (DataW H) → Nat
  | [] => 0
  | d :: r => uptoBulk d + uptoBulkAll r
def uptoBulkEntries {H : Type} : List (Lit × DataW H) → Nat
  | [] => 0
  | x :: r => uptoBulkEntry x + uptoBulkEntries r
def uptoBulkEntry {H : Type} : Lit × DataW H → Nat
  | (.string bytes, d) => bytes.length + uptoBulk d + 1
  | (_, d) => uptoBulk d + 1
 end
def uptoSmall : (H : Type) → List (DataW H) → Bool := fun _ ds => decide (uptoBulkAll ds ≤ 1048576)
def OpenSpec.upto (s : _root_.Go.ChangeSpec) : _root_.Go.OpenSpec := { _root_.Go.OpenSpec.ofChange s with cond := some uptoSmall }

/-- 'laws.FnExactDecodeHead', WHERE WHAT IT READS IS OF BULK AT MOST 1048576: true; the input reads as it did. -/
def fnExactDecodeHeadUptoRow : OpenClaim := { program := "ytlmapgfmfamgcaa", sum := "16293069b1d19242279a532714d173bbc58ff34e7d5dbee77e1e43036fc16cc8", func := "loop.example/s01858/laws.FnExactDecodeHead", spec := "fnExactDecodeHead", apart := false, narrowed := true }
def FnExactDecodeHeadUptoSaid : Prop := fnExactDecodeHeadUptoRow.holds Try.pinned (OpenSpec.upto fnExactDecodeHeadSpec)

/-- 'laws.FnExactDecodeName', WHERE WHAT IT READS IS OF BULK AT MOST 1048576: true; the input reads as it did. -/
def fnExactDecodeNameUptoRow : OpenClaim := { program := "ytlmapgfmfamgcaa", sum := "16293069b1d19242279a532714d173bbc58ff34e7d5dbee77e1e43036fc16cc8", func := "loop.example/s01858/laws.FnExactDecodeName", spec := "fnExactDecodeName", apart := false, narrowed := true }
def FnExactDecodeNameUptoSaid : Prop := fnExactDecodeNameUptoRow.holds Try.pinned (OpenSpec.upto fnExactDecodeNameSpec)

end Rows
end Go.Proofs.Ytlmapgfmfamgcaa
