/- What impl_nameAt computes, in plain words, for enough rounds. Conditions: bounds on the sizes of its arguments, as each statement says. -/
import Derived.Test.YtbaajohjglhpfaaDoorFx1041
import Derived.Test.YtbaajohjglhpfaaDoorBase
import Derived.Test.YtbaajohjglhpfaaDoorBaseData
namespace Go.Proofs.YtbaajohjglhpfaaDoor.Pure
open Go.RowKit Go.Proofs.YtbaajohjglhpfaaDoor.F Go.Proofs.YtbaajohjglhpfaaDoor.Base Go.Proofs.YtbaajohjglhpfaaDoorW.PrintWords Go.Proofs.YtbaajohjglhpfaaDoorW.PrintLast Go.Proofs.YtbaajohjglhpfaaDoorW.PrintMore
set_option linter.unusedVariables false
set_option linter.unusedSimpArgs false
-- base: BaseData
theorem impl_nameAt_l0 (x : ByteArray) (hx : x.size ≤ 1000000000) : ∀ (d p k : Nat), x.size ≤ p + d → p ≤ x.size + 64 → d < k → impl_nameAt.l0 k x (p : Int) = some (nmP (L x) d p : Int) := by
  intro d
  induction d with
  | zero =>
    intro p k h1 h2 hk
    obtain ⟨k, rfl⟩ : ∃ m, k = m + 1 := ⟨k - 1, by omega⟩
    rw [impl_nameAt.l0, if_neg (by omega)]
    rfl
  | succ d ih =>
    intro p k h1 h2 hk
    obtain ⟨k, rfl⟩ : ∃ m, k = m + 1 := ⟨k - 1, by omega⟩
    rw [impl_nameAt.l0]
    by_cases hp : p < x.size
    · have hl : p < (L x).length := by rw [← size_L]; exact hp
      have hc := byte_le (L x)[p]
      rw [if_pos (by omega), if_pos (by omega), bt_get hl, nmP, drop_at hl]
      generalize (L x)[p] = c at *
      rw [w64 (x := (c.toNat : Int)) (by omega) (by omega)]
      simp only
      by_cases h0 : c.toNat = 0
      · rw [if_pos (by omega), if_pos h0, w64 (by omega) (by omega)]
        by_cases h3 : 255 < p + 1
        · rw [if_pos (by omega), if_pos h3]; rfl
        · rw [if_neg (by omega), if_neg h3]; rfl
      · rw [if_neg (by omega), if_neg h0]
        by_cases h63 : 63 < c.toNat
        · rw [if_pos (by omega), if_pos h63]; rfl
        · rw [if_neg (by omega), if_neg h63, w64 (x := 1 + (c.toNat : Int)) (by omega) (by omega), w64 (by omega) (by omega)]
          have := ih (p + 1 + c.toNat) k (by omega) (by omega) (by omega)
          rw [← this]
          congr 1
          omega
    · rw [if_neg (by omega), nmP, List.drop_of_length_le (by rw [← size_L]; omega)]
      rfl
theorem impl_nameAt_eq (x : ByteArray) (hx : x.size ≤ 1000000000) (k : Nat) (hk : x.size + 1 < k) : impl_nameAt.f k x = some (nm (L x) : Int) := by
  unfold impl_nameAt.f nm
  rw [← size_L]
  exact impl_nameAt_l0 x hx (x.size + 1) 0 k (by omega) (by omega) hk

end Go.Proofs.YtbaajohjglhpfaaDoor.Pure
