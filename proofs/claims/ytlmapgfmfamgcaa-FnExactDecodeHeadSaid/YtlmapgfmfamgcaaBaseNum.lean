/- Numbers out of bytes, the high one first. -/
import Derived.Test.YtlmapgfmfamgcaaBase
namespace Go.Proofs.Ytlmapgfmfamgcaa.Base
open Go.RowKit Go.Proofs.YtlmapgfmfamgcaaW.PrintWords Go.Proofs.YtlmapgfmfamgcaaW.PrintLast
/-- The number of some bytes behind a number. -/
def num (n : Int) : List UInt8 → Int
  | [] => n
  | c :: r => num (n * 256 + c.toNat) r
theorem list12 {α : Type} {l : List α} (h : l.length = 12) : ∃ c0 c1 c2 c3 c4 c5 c6 c7 c8 c9 c10 c11, l = [c0, c1, c2, c3, c4, c5, c6, c7, c8, c9, c10, c11] := by
  match l, h with
  | [c0, c1, c2, c3, c4, c5, c6, c7, c8, c9, c10, c11], _ => exact ⟨_, _, _, _, _, _, _, _, _, _, _, _, rfl⟩
end Go.Proofs.Ytlmapgfmfamgcaa.Base
