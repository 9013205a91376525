/- What spec_l03Unit computes, in plain words, for enough rounds. Conditions: bounds on the sizes of its arguments, as each statement says. -/
import Derived.Test.YtpbmnokmpihnjaaFx1032
import Derived.Test.YtpbmnokmpihnjaaBase
import Derived.Test.YtpbmnokmpihnjaaBaseTTL
namespace Go.Proofs.Ytpbmnokmpihnjaa.Pure
open Go.RowKit Go.Proofs.Ytpbmnokmpihnjaa.F Go.Proofs.Ytpbmnokmpihnjaa.Base Go.Proofs.YtpbmnokmpihnjaaW.PrintWords Go.Proofs.YtpbmnokmpihnjaaW.PrintLast Go.Proofs.YtpbmnokmpihnjaaW.PrintMore
set_option linter.unusedVariables false
set_option linter.unusedSimpArgs false
-- base: BaseTTL
theorem spec_l03Unit_all : ∀ n : Fin 256, spec_l03Unit.f 5 (n.val : Int) = some (unit n.val) := by decide +kernel
theorem spec_l03Unit_eq (c : UInt8) (k : Nat) (hk : 5 ≤ k) : spec_l03Unit.f k (c.toNat : Int) = some (unit c.toNat) := by
  have h := spec_l03Unit_all ⟨c.toNat, c.toNat_lt⟩
  have hm : ∀ d, spec_l03Unit.f (5 + d) (c.toNat : Int) = some (unit c.toNat) := by
    intro d
    induction d with
    | zero => exact h
    | succ d ih => exact spec_l03Unit.mono _ _ _ ih
  have := hm (k - 5)
  rwa [show 5 + (k - 5) = k from by omega] at this

end Go.Proofs.Ytpbmnokmpihnjaa.Pure
