/-
  No cell of these rows narrows 'for every input' (looked for: loops, veiled, ifaces, maps, wideKeys, modest, calm, conditions, laid).
  DERIVED. THE GIVEN ROWS OF THIS SEAT. 7 by the template 'for every input the law returns true; each argument reads behind the call as it read before'; 0 by the template 'total and deterministic' (their statements: YtpbmnokmpihnjaaTotals.lean).
  GIVEN WITH THE SEED: the statements are not yours to turn. If you find one false, say at which input.
  Laid BY PROGRAM, IN A SANDBOX (cutbox-rows.mjs): the forced cells as the released guide's own fill.sh prints them over the translation eeff652a874596f0… (all of the seat's roots in one cut). By AI agents, Wed Nov 11 2026. No macro, syntax, notation, axiom, sorry.
-/
import Derived.Test.YtpbmnokmpihnjaaChecked
import GoSem.Claim
import GoSem.ClaimJoined
import GoSem.ClaimMapViews
import Derived.JoinedTies
import Derived.KernelRfl
namespace Go.Proofs.Ytpbmnokmpihnjaa
/- THE CELL 'sum', in the pinned program and in every row, IS THE sha256 OF THE DUMP (.gsa) THAT YtpbmnokmpihnjaaProg.lean LOADS. Nothing in Lean hashes anything: it is a label: what it is worth is what the hold of that sum in a sandbox is worth. -/
noncomputable def Try.pinned : Pinned := { name := "ytpbmnokmpihnjaa", sum := "eeff652a874596f0c729a824998471b117127c1dfa77ccc050bec3036002a20d", checked := Try.checked }
namespace Rows
def none {H : Type} : Left H := { results := [], args := [] }

/-- 'laws.FnExactReadTTL': WHATEVER THE INPUT: true; the input reads as it did. -/
def fnExactReadTTLSpec : ChangeSpec := { name := "fnExactReadTTL", fn := fun _ => fun
  | [d] => { results := [.lit (.bool true)], args := [d] }
  | _ => none }
def fnExactReadTTLRow : OpenClaim := { program := "ytpbmnokmpihnjaa", sum := "eeff652a874596f0c729a824998471b117127c1dfa77ccc050bec3036002a20d", func := "loop.example/s01858/laws.FnExactReadTTL", spec := "fnExactReadTTL", apart := false }
def FnExactReadTTLSaid : Prop := fnExactReadTTLRow.holds Try.pinned (OpenSpec.ofChange fnExactReadTTLSpec)

/-- ITS FALSE NEIGHBOUR: 'it returns false'. Refute it at one input. -/
def fnExactReadTTLWrong : ChangeSpec := { name := "fnExactReadTTL", fn := fun _ => fun
  | [d] => { results := [.lit (.bool false)], args := [d] }
  | _ => none }
def FnExactReadTTLWrongFalsely : Prop := fnExactReadTTLRow.holds Try.pinned (OpenSpec.ofChange fnExactReadTTLWrong)

/-- 'laws.FnExactIsUnder': WHATEVER THE INPUT: true; the input reads as it did. -/
def fnExactIsUnderSpec : ChangeSpec := { name := "fnExactIsUnder", fn := fun _ => fun
  | [d1, d2] => { results := [.lit (.bool true)], args := [d1, d2] }
  | _ => none }
def fnExactIsUnderRow : OpenClaim := { program := "ytpbmnokmpihnjaa", sum := "eeff652a874596f0c729a824998471b117127c1dfa77ccc050bec3036002a20d", func := "loop.example/s01858/laws.FnExactIsUnder", spec := "fnExactIsUnder", inPlace := ["internal/abi.NoEscape"], apart := false }
def FnExactIsUnderSaid : Prop := fnExactIsUnderRow.holds Try.pinned (OpenSpec.ofChange fnExactIsUnderSpec)

/-- ITS FALSE NEIGHBOUR: 'it returns false'. Refute it at one input. -/
def fnExactIsUnderWrong : ChangeSpec := { name := "fnExactIsUnder", fn := fun _ => fun
  | [d1, d2] => { results := [.lit (.bool false)], args := [d1, d2] }
  | _ => none }
def FnExactIsUnderWrongFalsely : Prop := fnExactIsUnderRow.holds Try.pinned (OpenSpec.ofChange fnExactIsUnderWrong)

/-- 'laws.FnExactReplaceTail': WHATEVER THE INPUT: true; the input reads as it did. -/
def fnExactReplaceTailSpec : ChangeSpec := { name := "fnExactReplaceTail", fn := fun _ => fun
  | [d1, d2, d3] => { results := [.lit (.bool true)], args := [d1, d2, d3] }
  | _ => none }
def fnExactReplaceTailRow : OpenClaim := { program := "ytpbmnokmpihnjaa", sum := "eeff652a874596f0c729a824998471b117127c1dfa77ccc050bec3036002a20d", func := "loop.example/s01858/laws.FnExactReplaceTail", spec := "fnExactReplaceTail", inPlace := ["internal/abi.NoEscape"], apart := false }
def FnExactReplaceTailSaid : Prop := fnExactReplaceTailRow.holds Try.pinned (OpenSpec.ofChange fnExactReplaceTailSpec)

/-- ITS FALSE NEIGHBOUR: 'it returns false'. Refute it at one input. -/
def fnExactReplaceTailWrong : ChangeSpec := { name := "fnExactReplaceTail", fn := fun _ => fun
  | [d1, d2, d3] => { results := [.lit (.bool false)], args := [d1, d2, d3] }
  | _ => none }
def FnExactReplaceTailWrongFalsely : Prop := fnExactReplaceTailRow.holds Try.pinned (OpenSpec.ofChange fnExactReplaceTailWrong)

/-- 'laws.FnExactReadName': WHATEVER THE INPUT: true; the input reads as it did. -/
def fnExactReadNameSpec : ChangeSpec := { name := "fnExactReadName", fn := fun _ => fun
  | [d1, d2] => { results := [.lit (.bool true)], args := [d1, d2] }
  | _ => none }
def fnExactReadNameRow : OpenClaim := { program := "ytpbmnokmpihnjaa", sum := "eeff652a874596f0c729a824998471b117127c1dfa77ccc050bec3036002a20d", func := "loop.example/s01858/laws.FnExactReadName", spec := "fnExactReadName", inPlace := ["internal/abi.NoEscape"], apart := false }
def FnExactReadNameSaid : Prop := fnExactReadNameRow.holds Try.pinned (OpenSpec.ofChange fnExactReadNameSpec)

/-- ITS FALSE NEIGHBOUR: 'it returns false'. Refute it at one input. -/
def fnExactReadNameWrong : ChangeSpec := { name := "fnExactReadName", fn := fun _ => fun
  | [d1, d2] => { results := [.lit (.bool false)], args := [d1, d2] }
  | _ => none }
def FnExactReadNameWrongFalsely : Prop := fnExactReadNameRow.holds Try.pinned (OpenSpec.ofChange fnExactReadNameWrong)

/-- 'laws.FnNameOrder': WHATEVER THE INPUT: true; the input reads as it did. -/
def fnNameOrderSpec : ChangeSpec := { name := "fnNameOrder", fn := fun _ => fun
  | [d1, d2] => { results := [.lit (.bool true)], args := [d1, d2] }
  | _ => none }
def fnNameOrderRow : OpenClaim := { program := "ytpbmnokmpihnjaa", sum := "eeff652a874596f0c729a824998471b117127c1dfa77ccc050bec3036002a20d", func := "loop.example/s01858/laws.FnNameOrder", spec := "fnNameOrder", inPlace := ["internal/bytealg.abigen_runtime_cmpstring", "internal/abi.NoEscape"], apart := false }
def FnNameOrderSaid : Prop := fnNameOrderRow.holds Try.pinned (OpenSpec.ofChange fnNameOrderSpec)

/-- ITS FALSE NEIGHBOUR: 'it returns false'. Refute it at one input. -/
def fnNameOrderWrong : ChangeSpec := { name := "fnNameOrder", fn := fun _ => fun
  | [d1, d2] => { results := [.lit (.bool false)], args := [d1, d2] }
  | _ => none }
def FnNameOrderWrongFalsely : Prop := fnNameOrderRow.holds Try.pinned (OpenSpec.ofChange fnNameOrderWrong)

/-- 'laws.FnTail': WHATEVER THE INPUT: true; the input reads as it did. -/
def fnTailSpec : ChangeSpec := { name := "fnTail", fn := fun _ => fun
  | [d] => { results := [.lit (.bool true)], args := [d] }
  | _ => none }
def fnTailRow : OpenClaim := { program := "ytpbmnokmpihnjaa", sum := "eeff652a874596f0c729a824998471b117127c1dfa77ccc050bec3036002a20d", func := "loop.example/s01858/laws.FnTail", spec := "fnTail", inPlace := ["internal/abi.NoEscape"], apart := false }
def FnTailSaid : Prop := fnTailRow.holds Try.pinned (OpenSpec.ofChange fnTailSpec)

/-- ITS FALSE NEIGHBOUR: 'it returns false'. Refute it at one input. -/
def fnTailWrong : ChangeSpec := { name := "fnTail", fn := fun _ => fun
  | [d] => { results := [.lit (.bool false)], args := [d] }
  | _ => none }
def FnTailWrongFalsely : Prop := fnTailRow.holds Try.pinned (OpenSpec.ofChange fnTailWrong)

/-- 'laws.FnExactLex': WHATEVER THE INPUT: true; the input reads as it did. -/
def fnExactLexSpec : ChangeSpec := { name := "fnExactLex", fn := fun _ => fun
  | [d] => { results := [.lit (.bool true)], args := [d] }
  | _ => none }
def fnExactLexRow : OpenClaim := { program := "ytpbmnokmpihnjaa", sum := "eeff652a874596f0c729a824998471b117127c1dfa77ccc050bec3036002a20d", func := "loop.example/s01858/laws.FnExactLex", spec := "fnExactLex", inPlace := ["internal/bytealg.IndexByteString"], unfollowed := true, recurses := true, apart := false }
def FnExactLexSaid : Prop := fnExactLexRow.holds Try.pinned (OpenSpec.ofChange fnExactLexSpec)

/-- ITS FALSE NEIGHBOUR: 'it returns false'. Refute it at one input. -/
def fnExactLexWrong : ChangeSpec := { name := "fnExactLex", fn := fun _ => fun
  | [d] => { results := [.lit (.bool false)], args := [d] }
  | _ => none }
def FnExactLexWrongFalsely : Prop := fnExactLexRow.holds Try.pinned (OpenSpec.ofChange fnExactLexWrong)

/- THE SECOND FORM. 'bulk': how many values and letters a reading holds, each counted each time it is reached (what is shared counts as often as it is met; a slice's spare places count too). A statement '..UptoSaid' is the law's where the arguments, and the package variables that the reading takes, are together of bulk at most 1048576: NARROWER than '..Said'. Prove '..Said' where nothing that the law and all that it calls make is longer than what came in: it says more and counts as full. Else prove '..UptoSaid'. A law counts once. -/
mutual
def uptoBulk {H : Type} : DataW H → Nat
  | .lit (.string bytes) => bytes.length + 1
  | .lit _ => 1
  | .nil => 1
  | .ptr d => uptoBulk d + 1
  | .slice elems spare => uptoBulkAll elems + uptoBulkAll spare + 1
  | .agg parts => uptoBulkAll parts + 1
  | .iface _ d => uptoBulk d + 1
  | .map entries => uptoBulkEntries entries + 1
  | .held _ => 1
def uptoBulkAll {H : Type} : List (DataW H) → Nat
  | [] => 0
  | d :: r => uptoBulk d + uptoBulkAll r
def uptoBulkEntries {H : Type} : List (Lit × DataW H) → Nat
  | [] => 0
  | x :: r => uptoBulkEntry x + uptoBulkEntries r
def uptoBulkEntry {H : Type} : Lit × DataW H → Nat
  | (.string bytes, d) => bytes.length + uptoBulk d + 1
  | (_, d) => uptoBulk d + 1
 end
def uptoSmall : (H : Type) → List (DataW H) → Bool := fun _ ds => decide (uptoBulkAll ds ≤ 1048576)
def OpenSpec.upto (s : _root_.Go.ChangeSpec) : _root_.Go.OpenSpec := { _root_.Go.OpenSpec.ofChange s with cond := some uptoSmall }

/-- 'laws.FnExactReadTTL', WHERE WHAT IT READS IS OF BULK AT MOST 1048576: true; the input reads as it did. -/
def fnExactReadTTLUptoRow : OpenClaim := { program := "ytpbmnokmpihnjaa", sum := "eeff652a874596f0c729a824998471b117127c1dfa77ccc050bec3036002a20d", func := "loop.example/s01858/laws.FnExactReadTTL", spec := "fnExactReadTTL", apart := false, narrowed := true }
def FnExactReadTTLUptoSaid : Prop := fnExactReadTTLUptoRow.holds Try.pinned (OpenSpec.upto fnExactReadTTLSpec)

/-- 'laws.FnExactIsUnder', WHERE WHAT IT READS IS OF BULK AT MOST 1048576: true; the input reads as it did. -/
def fnExactIsUnderUptoRow : OpenClaim := { program := "ytpbmnokmpihnjaa", sum := "eeff652a874596f0c729a824998471b117127c1dfa77ccc050bec3036002a20d", func := "loop.example/s01858/laws.FnExactIsUnder", spec := "fnExactIsUnder", inPlace := ["internal/abi.NoEscape"], apart := false, narrowed := true }
def FnExactIsUnderUptoSaid : Prop := fnExactIsUnderUptoRow.holds Try.pinned (OpenSpec.upto fnExactIsUnderSpec)

/-- 'laws.FnExactReplaceTail', WHERE WHAT IT READS IS OF BULK AT MOST 1048576: true; the input reads as it did. -/
def fnExactReplaceTailUptoRow : OpenClaim := { program := "ytpbmnokmpihnjaa", sum := "eeff652a874596f0c729a824998471b117127c1dfa77ccc050bec3036002a20d", func := "loop.example/s01858/laws.FnExactReplaceTail", spec := "fnExactReplaceTail", inPlace := ["internal/abi.NoEscape"], apart := false, narrowed := true }
def FnExactReplaceTailUptoSaid : Prop := fnExactReplaceTailUptoRow.holds Try.pinned (OpenSpec.upto fnExactReplaceTailSpec)

/-- 'laws.FnExactReadName', WHERE WHAT IT READS IS OF BULK AT MOST 1048576: true; the input reads as it did. -/
def fnExactReadNameUptoRow : OpenClaim := { program := "ytpbmnokmpihnjaa", sum := "eeff652a874596f0c729a824998471b117127c1dfa77ccc050bec3036002a20d", func := "loop.example/s01858/laws.FnExactReadName", spec := "fnExactReadName", inPlace := ["internal/abi.NoEscape"], apart := false, narrowed := true }
def FnExactReadNameUptoSaid : Prop := fnExactReadNameUptoRow.holds Try.pinned (OpenSpec.upto fnExactReadNameSpec)

/-- 'laws.FnNameOrder', WHERE WHAT IT READS IS OF BULK AT MOST 1048576: true; the input reads as it did. -/
def fnNameOrderUptoRow : OpenClaim := { program := "ytpbmnokmpihnjaa", sum := "eeff652a874596f0c729a824998471b117127c1dfa77ccc050bec3036002a20d", func := "loop.example/s01858/laws.FnNameOrder", spec := "fnNameOrder", inPlace := ["internal/bytealg.abigen_runtime_cmpstring", "internal/abi.NoEscape"], apart := false, narrowed := true }
def FnNameOrderUptoSaid : Prop := fnNameOrderUptoRow.holds Try.pinned (OpenSpec.upto fnNameOrderSpec)

/-- 'laws.FnTail', WHERE WHAT IT READS IS OF BULK AT MOST 1048576: true; the input reads as it did. -/
def fnTailUptoRow : OpenClaim := { program := "ytpbmnokmpihnjaa", sum := "eeff652a874596f0c729a824998471b117127c1dfa77ccc050bec3036002a20d", func := "loop.example/s01858/laws.FnTail", spec := "fnTail", inPlace := ["internal/abi.NoEscape"], apart := false, narrowed := true }
def FnTailUptoSaid : Prop := fnTailUptoRow.holds Try.pinned (OpenSpec.upto fnTailSpec)

/-- 'laws.FnExactLex', WHERE WHAT IT READS IS OF BULK AT MOST 1048576: true; the input reads as it did. -/
def fnExactLexUptoRow : OpenClaim := { program := "ytpbmnokmpihnjaa", sum := "eeff652a874596f0c729a824998471b117127c1dfa77ccc050bec3036002a20d", func := "loop.example/s01858/laws.FnExactLex", spec := "fnExactLex", inPlace := ["internal/bytealg.IndexByteString"], unfollowed := true, recurses := true, apart := false, narrowed := true }
def FnExactLexUptoSaid : Prop := fnExactLexUptoRow.holds Try.pinned (OpenSpec.upto fnExactLexSpec)

end Rows
end Go.Proofs.Ytpbmnokmpihnjaa
