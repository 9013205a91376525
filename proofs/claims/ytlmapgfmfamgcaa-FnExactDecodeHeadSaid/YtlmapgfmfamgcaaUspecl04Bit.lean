/- What spec_l04Bit computes, in plain words, for enough rounds. Conditions: bounds on the sizes of its arguments, as each statement says. -/
import Derived.Test.YtlmapgfmfamgcaaFx1014
import Derived.Test.YtlmapgfmfamgcaaBase
import Derived.Test.YtlmapgfmfamgcaaBaseMap
namespace Go.Proofs.Ytlmapgfmfamgcaa.Pure
open Go.RowKit Go.Proofs.Ytlmapgfmfamgcaa.F Go.Proofs.Ytlmapgfmfamgcaa.Base Go.Proofs.YtlmapgfmfamgcaaW.PrintWords Go.Proofs.YtlmapgfmfamgcaaW.PrintLast Go.Proofs.YtlmapgfmfamgcaaW.PrintMore
set_option linter.unusedVariables false
set_option linter.unusedSimpArgs false
-- base: BaseMap
theorem spec_l04Bit_eq (n i : Int) (h0 : 0 ≤ i) (h1 : i < 64) : spec_l04Bit.f n i = some (Go.bits .and .i64 (shr .i64 n i) 1 == 1) := by
  unfold spec_l04Bit.f
  rw [wrap_u64, Int.emod_eq_of_lt h0 (by omega), if_pos h0]

end Go.Proofs.Ytlmapgfmfamgcaa.Pure
