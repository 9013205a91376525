/- What impl_FoldName computes, in plain words, for enough rounds. Conditions: bounds on the sizes of its arguments, as each statement says. -/
import Derived.Test.YtelmbgholdnaaaaFx1031
import Derived.Test.YtelmbgholdnaaaaBase
import Derived.Test.YtelmbgholdnaaaaBaseName
import Derived.Test.YtelmbgholdnaaaaUimplNameOK
import Derived.Test.YtelmbgholdnaaaaUimplfold
namespace Go.Proofs.Ytelmbgholdnaaaa.Pure
open Go.RowKit Go.Proofs.Ytelmbgholdnaaaa.F Go.Proofs.Ytelmbgholdnaaaa.Base Go.Proofs.YtelmbgholdnaaaaW.PrintWords Go.Proofs.YtelmbgholdnaaaaW.PrintLast Go.Proofs.YtelmbgholdnaaaaW.PrintMore
set_option linter.unusedVariables false
set_option linter.unusedSimpArgs false
-- base: BaseName
theorem impl_FoldName_eq (a : ByteArray) (k : Nat) (hk : 400 ≤ k) : impl_FoldName.f k a = some (if (names (L a)).isSome = true then foldB a else ⟨#[]⟩) := by
  unfold impl_FoldName.f
  rw [impl_NameOK_eq a k hk]
  simp only [Option.bind_some]
  cases h : names (L a) with
  | none => simp
  | some ls =>
    have := (names_join h).2.2
    rw [impl_fold_eq a (by rw [size_L]; omega)]
    simp

end Go.Proofs.Ytelmbgholdnaaaa.Pure
