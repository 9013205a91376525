/- What spec_l02Form computes, in plain words, for enough rounds. Conditions: bounds on the sizes of its arguments, as each statement says. -/
import Derived.Test.YtbaajohjglhpfaaDoorFx1025
import Derived.Test.YtbaajohjglhpfaaDoorBase
import Derived.Test.YtbaajohjglhpfaaDoorBaseForm
namespace Go.Proofs.YtbaajohjglhpfaaDoor.Pure
open Go.RowKit Go.Proofs.YtbaajohjglhpfaaDoor.F Go.Proofs.YtbaajohjglhpfaaDoor.Base Go.Proofs.YtbaajohjglhpfaaDoorW.PrintWords Go.Proofs.YtbaajohjglhpfaaDoorW.PrintLast Go.Proofs.YtbaajohjglhpfaaDoorW.PrintMore
set_option linter.unusedVariables false
set_option linter.unusedSimpArgs false
-- base: BaseForm
/-- The reference's form of a type. -/
def sform (t : Int) : List UInt8 :=
  if t = 1 then [98, 98, 98, 98] else if t = 2 ∨ t = 5 ∨ t = 12 ∨ t = 39 then [110] else if t = 6 then [110, 110, 98, 98, 98, 98, 98, 98, 98, 98, 98, 98, 98, 98, 98, 98, 98, 98, 98, 98, 98, 98]
  else if t = 13 then [116, 116] else if t = 15 then [98, 98, 110] else if t = 16 then [115] else if t = 28 then [98, 98, 98, 98, 98, 98, 98, 98, 98, 98, 98, 98, 98, 98, 98, 98]
  else if t = 33 then [98, 98, 98, 98, 98, 98, 110] else if t = 35 then [98, 98, 98, 98, 116, 116, 116, 110] else if t = 47 then [110, 109] else if t = 257 then [98, 99] else [42]
theorem spec_l02Form_eq (t : Int) (k : Nat) (hk : 1 ≤ k) : spec_l02Form.f k t = some (B (sform t)) := by
  obtain ⟨k, rfl⟩ : ∃ m, k = m + 1 := ⟨k - 1, by omega⟩
  unfold spec_l02Form.f
  by_cases c1 : t = 1
  · subst c1; rfl
  by_cases c2 : t = 2
  · subst c2; rfl
  by_cases c5 : t = 5
  · subst c5; rfl
  by_cases c12 : t = 12
  · subst c12; rfl
  by_cases c39 : t = 39
  · subst c39; rfl
  rw [if_neg c1, if_neg c2, if_neg c5, if_neg c12, spec_l02Form.j0, if_neg (by simpa using c39)]
  have hs : sform t = (if t = 6 then [110, 110, 98, 98, 98, 98, 98, 98, 98, 98, 98, 98, 98, 98, 98, 98, 98, 98, 98, 98, 98, 98]
      else if t = 13 then [116, 116] else if t = 15 then [98, 98, 110] else if t = 16 then [115] else if t = 28 then [98, 98, 98, 98, 98, 98, 98, 98, 98, 98, 98, 98, 98, 98, 98, 98]
      else if t = 33 then [98, 98, 98, 98, 98, 98, 110] else if t = 35 then [98, 98, 98, 98, 116, 116, 116, 110] else if t = 47 then [110, 109] else if t = 257 then [98, 99] else [42]) := by
    unfold sform
    rw [if_neg c1, if_neg (show ¬ (t = 2 ∨ t = 5 ∨ t = 12 ∨ t = 39) by omega)]
  rw [hs]
  by_cases c6 : t = 6
  · subst c6; rfl
  by_cases c13 : t = 13
  · subst c13; rfl
  by_cases c15 : t = 15
  · subst c15; rfl
  by_cases c16 : t = 16
  · subst c16; rfl
  by_cases c28 : t = 28
  · subst c28; rfl
  by_cases c33 : t = 33
  · subst c33; rfl
  by_cases c35 : t = 35
  · subst c35; rfl
  by_cases c47 : t = 47
  · subst c47; rfl
  by_cases c257 : t = 257
  · subst c257; rfl
  simp only [if_neg c6, if_neg c13, if_neg c15, if_neg c16, if_neg c28, if_neg c33, if_neg c35, if_neg c47, if_neg c257]
  rfl

end Go.Proofs.YtbaajohjglhpfaaDoor.Pure
