/- What impl_SameName computes, in plain words, for enough rounds. Conditions: bounds on the sizes of its arguments, as each statement says. -/
import Derived.Test.YtelmbgholdnaaaaFx1029
import Derived.Test.YtelmbgholdnaaaaBase
import Derived.Test.YtelmbgholdnaaaaBaseName
import Derived.Test.YtelmbgholdnaaaaUimplNameOK
import Derived.Test.YtelmbgholdnaaaaUimplfold
namespace Go.Proofs.Ytelmbgholdnaaaa.Pure
open Go.RowKit Go.Proofs.Ytelmbgholdnaaaa.F Go.Proofs.Ytelmbgholdnaaaa.Base Go.Proofs.YtelmbgholdnaaaaW.PrintWords Go.Proofs.YtelmbgholdnaaaaW.PrintLast Go.Proofs.YtelmbgholdnaaaaW.PrintMore
set_option linter.unusedVariables false
set_option linter.unusedSimpArgs false
-- base: BaseName
theorem impl_SameName_eq (a b : ByteArray) (k : Nat) (hk : 400 ≤ k) : impl_SameName.f k a b = some (sameN a b) := by
  unfold impl_SameName.f sameN
  rw [impl_NameOK_eq a k hk, impl_NameOK_eq b k hk]
  simp only [Option.bind_some]
  cases ha : names (L a) with
  | none => simp
  | some ls =>
    cases hb : names (L b) with
    | none => simp
    | some ms =>
      have h1 := (names_join ha).2.2
      have h2 := (names_join hb).2.2
      rw [impl_fold_eq a (by rw [size_L]; omega), impl_fold_eq b (by rw [size_L]; omega)]
      simp only [Option.bind_some, Option.isSome_some, if_true, Bool.true_and, toL]

end Go.Proofs.Ytelmbgholdnaaaa.Pure
