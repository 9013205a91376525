/- What laws_eqHead computes, in plain words, for enough rounds. Conditions: bounds on the sizes of its arguments, as each statement says. -/
import Derived.Test.YtlmapgfmfamgcaaFx1008
import Derived.Test.YtlmapgfmfamgcaaBase
namespace Go.Proofs.Ytlmapgfmfamgcaa.Pure
open Go.RowKit Go.Proofs.Ytlmapgfmfamgcaa.F Go.Proofs.Ytlmapgfmfamgcaa.Base Go.Proofs.YtlmapgfmfamgcaaW.PrintWords Go.Proofs.YtlmapgfmfamgcaaW.PrintLast Go.Proofs.YtlmapgfmfamgcaaW.PrintMore
set_option linter.unusedVariables false
set_option linter.unusedSimpArgs false
theorem laws_eqHead_refl (a0 : Int) (a1 : Bool) (a2 : Int) (a3 a4 a5 a6 a7 a8 a9 : Bool) (a10 : Int) : laws_eqHead.f a0 a1 a2 a3 a4 a5 a6 a7 a8 a9 a10 a0 a1 a2 a3 a4 a5 a6 a7 a8 a9 a10 = some true := by
  unfold laws_eqHead.f
  simp

end Go.Proofs.Ytlmapgfmfamgcaa.Pure
