/- The pure statement of FnExactIsUnder: what the program computes is what the law asks, at every argument. No condition beyond the statement's own. -/
import Derived.Test.YtpbmnokmpihnjaaFx1004
import Derived.Test.YtpbmnokmpihnjaaBase
import Derived.Test.YtpbmnokmpihnjaaUimplIsUnder
import Derived.Test.YtpbmnokmpihnjaaUspecIsUnder
namespace Go.Proofs.Ytpbmnokmpihnjaa.Pure
open Go.RowKit Go.Proofs.Ytpbmnokmpihnjaa.F Go.Proofs.Ytpbmnokmpihnjaa.Base Go.Proofs.YtpbmnokmpihnjaaW.PrintWords Go.Proofs.YtpbmnokmpihnjaaW.PrintLast Go.Proofs.YtpbmnokmpihnjaaW.PrintMore
set_option linter.unusedVariables false
set_option linter.unusedSimpArgs false
theorem FnExactIsUnder : laws_FnExactIsUnder.Pure := by
  intro a b _ _
  refine ⟨1100001, ?_⟩
  unfold laws_FnExactIsUnder.f
  by_cases h : (a.size : Int) > 1048576
  · rw [if_pos h]
  · by_cases h2 : (b.size : Int) > 1048576
    · rw [if_neg h, if_pos h2]
    · rw [if_neg h, if_neg h2, spec_IsUnder_eq a b _ (Nat.le_refl _), impl_IsUnder_eq a b _ (by omega)]
      simp

end Go.Proofs.Ytpbmnokmpihnjaa.Pure
