/- What spec_l01Digit computes, in plain words, for enough rounds. Conditions: bounds on the sizes of its arguments, as each statement says. -/
import Derived.Test.YtpbmnokmpihnjaaFx1031
import Derived.Test.YtpbmnokmpihnjaaBase
import Derived.Test.YtpbmnokmpihnjaaBaseTTL
namespace Go.Proofs.Ytpbmnokmpihnjaa.Pure
open Go.RowKit Go.Proofs.Ytpbmnokmpihnjaa.F Go.Proofs.Ytpbmnokmpihnjaa.Base Go.Proofs.YtpbmnokmpihnjaaW.PrintWords Go.Proofs.YtpbmnokmpihnjaaW.PrintLast Go.Proofs.YtpbmnokmpihnjaaW.PrintMore
set_option linter.unusedVariables false
set_option linter.unusedSimpArgs false
-- base: BaseTTL
theorem spec_l01Digit_dig (c : UInt8) : spec_l01Digit.f (c.toNat : Int) = some (dig c) := by
  unfold spec_l01Digit.f
  by_cases hd : dig c
  · have hr := (dig_iff c).1 hd
    rw [if_pos (by omega), hd, decide_eq_true (by omega)]
  · have hr : ¬ (48 ≤ (c.toNat : Int) ∧ (c.toNat : Int) ≤ 57) := fun e => hd ((dig_iff c).2 e)
    rw [Bool.not_eq_true] at hd
    rw [hd]
    by_cases h : (c.toNat : Int) ≥ 48
    · rw [if_pos h, decide_eq_false (by omega)]
    · rw [if_neg h]

end Go.Proofs.Ytpbmnokmpihnjaa.Pure
