/- What spec_l01Join computes, in plain words, for enough rounds. Conditions: bounds on the sizes of its arguments, as each statement says. -/
import Derived.Test.YtpbmnokmpihnjaaFx1036
import Derived.Test.YtpbmnokmpihnjaaBase
import Derived.Test.YtpbmnokmpihnjaaBaseName
namespace Go.Proofs.Ytpbmnokmpihnjaa.Pure
open Go.RowKit Go.Proofs.Ytpbmnokmpihnjaa.F Go.Proofs.Ytpbmnokmpihnjaa.Base Go.Proofs.YtpbmnokmpihnjaaW.PrintWords Go.Proofs.YtpbmnokmpihnjaaW.PrintLast Go.Proofs.YtpbmnokmpihnjaaW.PrintMore
set_option linter.unusedVariables false
set_option linter.unusedSimpArgs false
-- base: BaseName
theorem spec_l01Join_eq (l : List ByteArray) (hb : (joinL l).length ≤ 1000000000) : spec_l01Join.f l = some (join l) := by
  have hll := joinL_len_ge l
  have e : joinS l = joinL l := rfl
  unfold spec_l01Join.f
  rw [e, if_pos (by omega)]
  rfl

end Go.Proofs.Ytpbmnokmpihnjaa.Pure
