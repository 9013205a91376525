/- The pure statement of FnExactNextSerial: what the program's function computes is what the reference computes, at every argument. No condition beyond the statement's own. -/
import Derived.Test.YtelmbgholdnaaaaPFnExactNextSerialx1
import Derived.Test.YtelmbgholdnaaaaBase
namespace Go.Proofs.Ytelmbgholdnaaaa.Pure
open Go.RowKit Go.Proofs.Ytelmbgholdnaaaa.PFnExactNextSerial Go.Proofs.Ytelmbgholdnaaaa.Base Go.Proofs.YtelmbgholdnaaaaW.PrintWords Go.Proofs.YtelmbgholdnaaaaW.PrintLast Go.Proofs.YtelmbgholdnaaaaW.PrintMore
set_option linter.unusedVariables false
set_option linter.unusedSimpArgs false

theorem FnExactNextSerial : laws_FnExactNextSerial.Pure := by
  intro a _
  unfold laws_FnExactNextSerial.f spec_NextSerial.f impl_NextSerial.f impl_serialOk.f impl_within.f spec_l04In.f
  by_cases ha : a ≥ 0
  · by_cases ha2 : a ≤ 4294967295
    · by_cases hb : a = 4294967295
      · simp [hb]
      · simp [ha, ha2, hb]
    · simp [ha, ha2]
  · simp [ha]

end Go.Proofs.Ytelmbgholdnaaaa.Pure
