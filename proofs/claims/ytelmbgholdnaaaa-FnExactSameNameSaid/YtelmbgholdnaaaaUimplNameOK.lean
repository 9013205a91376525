/- What impl_NameOK computes, in plain words, for enough rounds. Conditions: bounds on the sizes of its arguments, as each statement says. -/
import Derived.Test.YtelmbgholdnaaaaFx1020
import Derived.Test.YtelmbgholdnaaaaBase
import Derived.Test.YtelmbgholdnaaaaUimpllabelsOf
namespace Go.Proofs.Ytelmbgholdnaaaa.Pure
open Go.RowKit Go.Proofs.Ytelmbgholdnaaaa.F Go.Proofs.Ytelmbgholdnaaaa.Base Go.Proofs.YtelmbgholdnaaaaW.PrintWords Go.Proofs.YtelmbgholdnaaaaW.PrintLast Go.Proofs.YtelmbgholdnaaaaW.PrintMore
set_option linter.unusedVariables false
set_option linter.unusedSimpArgs false
theorem impl_NameOK_eq (a : ByteArray) (k : Nat) (hk : 400 ≤ k) : impl_NameOK.f k a = some (names (L a)).isSome := by
  unfold impl_NameOK.f
  cases h : names (L a) with
  | none => rw [impl_labelsOf_none h k hk]; simp
  | some ls => rw [impl_labelsOf_some h k hk]; simp

end Go.Proofs.Ytelmbgholdnaaaa.Pure
