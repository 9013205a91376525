/- What impl_u16 computes, in plain words, for enough rounds. Conditions: bounds on the sizes of its arguments, as each statement says. -/
import Derived.Test.YtlmapgfmfamgcaaFx1015
import Derived.Test.YtlmapgfmfamgcaaBase
import Derived.Test.YtlmapgfmfamgcaaBaseDec
namespace Go.Proofs.Ytlmapgfmfamgcaa.Pure
open Go.RowKit Go.Proofs.Ytlmapgfmfamgcaa.F Go.Proofs.Ytlmapgfmfamgcaa.Base Go.Proofs.YtlmapgfmfamgcaaW.PrintWords Go.Proofs.YtlmapgfmfamgcaaW.PrintLast Go.Proofs.YtlmapgfmfamgcaaW.PrintMore
set_option linter.unusedVariables false
set_option linter.unusedSimpArgs false
-- base: BaseDec
theorem impl_u16_eq {s : ByteArray} {a b : UInt8} {r : List UInt8} (h : L s = a :: b :: r) : impl_u16.f s = some ((a.toNat : Int) * 256 + b.toNat) := by
  have hs : s.size = r.length + 2 := by rw [size_L, h]; rfl
  have ha := byte_le a
  have hb := byte_le b
  unfold impl_u16.f
  rw [if_pos (by omega), if_pos (by omega), bt_cons h, bt_mid (p := [a]) h (by rfl), w64 (x := (a.toNat : Int)) (by omega) (by omega), w64 (x := (a.toNat : Int) * 256) (by omega) (by omega), w64 (x := (b.toNat : Int)) (by omega) (by omega), i64_or8 _ _ (by omega) (by omega) (by omega) (by omega) (by omega)]

end Go.Proofs.Ytlmapgfmfamgcaa.Pure
