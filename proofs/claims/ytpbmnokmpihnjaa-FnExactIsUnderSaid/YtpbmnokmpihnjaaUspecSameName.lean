/- What spec_SameName computes, in plain words, for enough rounds. Conditions: bounds on the sizes of its arguments, as each statement says. -/
import Derived.Test.YtpbmnokmpihnjaaFx1035
import Derived.Test.YtpbmnokmpihnjaaBase
import Derived.Test.YtpbmnokmpihnjaaBaseName
import Derived.Test.YtpbmnokmpihnjaaUspecFoldName
namespace Go.Proofs.Ytpbmnokmpihnjaa.Pure
open Go.RowKit Go.Proofs.Ytpbmnokmpihnjaa.F Go.Proofs.Ytpbmnokmpihnjaa.Base Go.Proofs.YtpbmnokmpihnjaaW.PrintWords Go.Proofs.YtpbmnokmpihnjaaW.PrintLast Go.Proofs.YtpbmnokmpihnjaaW.PrintMore
set_option linter.unusedVariables false
set_option linter.unusedSimpArgs false
-- base: BaseName
theorem spec_SameName_eq (a b : ByteArray) (k : Nat) (hk : 1100000 ≤ k) : spec_SameName.f k a b = some (sameN a b) := by
  unfold spec_SameName.f
  rw [spec_FoldName_eq a k hk, spec_FoldName_eq b k hk]
  simp only [Option.bind_some]
  unfold sameN
  cases ha : names (L a) with
  | none => simp [toL, L]
  | some ls =>
    simp only [Option.isSome_some, if_true, Bool.true_and]
    rw [toL, if_neg (foldB_ne ha)]
    cases hb : names (L b) with
    | none =>
      simp only [Option.isSome_none, Bool.false_eq_true, if_false, Bool.false_and]
      rw [toL]
      have := foldB_ne ha
      simp [L] at this ⊢
      exact this
    | some ms => simp only [Option.isSome_some, if_true, Bool.true_and, toL]

end Go.Proofs.Ytpbmnokmpihnjaa.Pure
