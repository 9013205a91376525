/- What spec_l02Text computes, in plain words, for enough rounds. Conditions: bounds on the sizes of its arguments, as each statement says. -/
import Derived.Test.YtbaajohjglhpfaaDoorFx1037
import Derived.Test.YtbaajohjglhpfaaDoorBase
import Derived.Test.YtbaajohjglhpfaaDoorBaseData
namespace Go.Proofs.YtbaajohjglhpfaaDoor.Pure
open Go.RowKit Go.Proofs.YtbaajohjglhpfaaDoor.F Go.Proofs.YtbaajohjglhpfaaDoor.Base Go.Proofs.YtbaajohjglhpfaaDoorW.PrintWords Go.Proofs.YtbaajohjglhpfaaDoorW.PrintLast Go.Proofs.YtbaajohjglhpfaaDoorW.PrintMore
set_option linter.unusedVariables false
set_option linter.unusedSimpArgs false
-- base: BaseData
theorem spec_l02Text_eq (x : ByteArray) (hx : x.size ≤ 1000000000) : spec_l02Text.f x = some (B ((L x).take (tx (L x)))) := by
  unfold spec_l02Text.f
  have hs := size_L x
  cases h : L x with
  | nil => rw [if_pos ((toList_nil x).2 h)]; rfl
  | cons c r =>
    rw [h] at hs
    have hc := byte_le c
    simp only [List.length_cons] at hs
    rw [if_neg (fun e => by rw [toList_nil, h] at e; cases e), if_pos (by omega), bt_cons h, w64 (x := (c.toNat : Int)) (by omega) (by omega), w64 (by omega) (by omega), tx]
    by_cases h1 : r.length < c.toNat
    · rw [if_pos (by omega), if_pos h1]; rfl
    · rw [if_neg (by omega), if_neg h1, if_pos (by omega), if_pos (by omega)]
      congr 1
      apply L_inj
      rw [L_extract, L_B, h]
      simp

end Go.Proofs.YtbaajohjglhpfaaDoor.Pure
