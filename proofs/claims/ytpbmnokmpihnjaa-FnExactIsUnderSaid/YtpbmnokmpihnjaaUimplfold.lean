/- What impl_fold computes, in plain words, for enough rounds. Conditions: bounds on the sizes of its arguments, as each statement says. -/
import Derived.Test.YtpbmnokmpihnjaaFx1038
import Derived.Test.YtpbmnokmpihnjaaBase
import Derived.Test.YtpbmnokmpihnjaaBaseName
namespace Go.Proofs.Ytpbmnokmpihnjaa.Pure
open Go.RowKit Go.Proofs.Ytpbmnokmpihnjaa.F Go.Proofs.Ytpbmnokmpihnjaa.Base Go.Proofs.YtpbmnokmpihnjaaW.PrintWords Go.Proofs.YtpbmnokmpihnjaaW.PrintLast Go.Proofs.YtpbmnokmpihnjaaW.PrintMore
set_option linter.unusedVariables false
set_option linter.unusedSimpArgs false
-- base: BaseName
theorem impl_fold_eq (a : ByteArray) (ha : a.size ≤ 140737488355328) : impl_fold.f a = some (foldB a) := by
  unfold impl_fold.f
  rw [if_pos ha]
  congr 1
  apply L_inj
  rw [L_strOfNums, L_foldB, bytesOf, List.map_map, List.map_map]
  apply List.map_congr_left
  intro c _
  simp only [Function.comp, low8]
  unfold low
  by_cases h : 65 ≤ c.toNat ∧ c.toNat ≤ 90
  · rw [if_pos (by omega), if_pos h, show ((c.toNat : Int) + 32).toNat = c.toNat + 32 from by omega]
  · rw [if_neg (by omega), if_neg h]
    simp

end Go.Proofs.Ytpbmnokmpihnjaa.Pure
