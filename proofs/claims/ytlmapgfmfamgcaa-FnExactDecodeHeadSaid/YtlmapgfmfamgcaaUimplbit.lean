/- What impl_bit computes, in plain words, for enough rounds. Conditions: bounds on the sizes of its arguments, as each statement says. -/
import Derived.Test.YtlmapgfmfamgcaaFx1016
import Derived.Test.YtlmapgfmfamgcaaBase
namespace Go.Proofs.Ytlmapgfmfamgcaa.Pure
open Go.RowKit Go.Proofs.Ytlmapgfmfamgcaa.F Go.Proofs.Ytlmapgfmfamgcaa.Base Go.Proofs.YtlmapgfmfamgcaaW.PrintWords Go.Proofs.YtlmapgfmfamgcaaW.PrintLast Go.Proofs.YtlmapgfmfamgcaaW.PrintMore
set_option linter.unusedVariables false
set_option linter.unusedSimpArgs false
theorem impl_bit_eq (n i : Int) (h0 : 0 ≤ i) : impl_bit.f n i = some (Go.bits .and .i64 (shr .i64 n i) 1 == 1) := by
  unfold impl_bit.f
  rw [if_pos h0]

end Go.Proofs.Ytlmapgfmfamgcaa.Pure
