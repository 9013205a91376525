/- The pure statement of FnExactReadTTL: what the program computes is what the law asks, at every argument. No condition beyond the statement's own. -/
import Derived.Test.YtpbmnokmpihnjaaFx1003
import Derived.Test.YtpbmnokmpihnjaaBase
import Derived.Test.YtpbmnokmpihnjaaUimplReadTTL
import Derived.Test.YtpbmnokmpihnjaaUspecReadTTL
namespace Go.Proofs.Ytpbmnokmpihnjaa.Pure
open Go.RowKit Go.Proofs.Ytpbmnokmpihnjaa.F Go.Proofs.Ytpbmnokmpihnjaa.Base Go.Proofs.YtpbmnokmpihnjaaW.PrintWords Go.Proofs.YtpbmnokmpihnjaaW.PrintLast Go.Proofs.YtpbmnokmpihnjaaW.PrintMore
set_option linter.unusedVariables false
set_option linter.unusedSimpArgs false
theorem FnExactReadTTL : laws_FnExactReadTTL.Pure := by
  intro x _
  refine ⟨400, ?_⟩
  unfold laws_FnExactReadTTL.f
  by_cases h : (x.size : Int) > 1048576
  · rw [if_pos h]
  · rw [if_neg h, spec_ReadTTL_eq x 400 (by omega), Option.bind_some, impl_ReadTTL_eq x 400 (by omega), Option.bind_some, if_pos rfl, if_pos rfl]

end Go.Proofs.Ytpbmnokmpihnjaa.Pure
