/- What spec_l02NameAt computes, in plain words, for enough rounds. Conditions: bounds on the sizes of its arguments, as each statement says. -/
import Derived.Test.YtbaajohjglhpfaaDoorFx1036
import Derived.Test.YtbaajohjglhpfaaDoorBase
import Derived.Test.YtbaajohjglhpfaaDoorBaseData
namespace Go.Proofs.YtbaajohjglhpfaaDoor.Pure
open Go.RowKit Go.Proofs.YtbaajohjglhpfaaDoor.F Go.Proofs.YtbaajohjglhpfaaDoor.Base Go.Proofs.YtbaajohjglhpfaaDoorW.PrintWords Go.Proofs.YtbaajohjglhpfaaDoorW.PrintLast Go.Proofs.YtbaajohjglhpfaaDoorW.PrintMore
set_option linter.unusedVariables false
set_option linter.unusedSimpArgs false
-- base: BaseData
theorem spec_l02NameAt_l0 (x : ByteArray) (hx : x.size ≤ 1000000000) : ∀ (d p k : Nat), x.size ≤ p + d → p ≤ x.size + 64 → 2 * d + 2 ≤ k → spec_l02NameAt.l0 k x (p : Int) = some (B ((L x).take (nmP (L x) d p))) := by
  intro d
  induction d with
  | zero =>
    intro p k h1 h2 hk
    obtain ⟨k, rfl⟩ : ∃ m, k = m + 1 + 1 := ⟨k - 2, by omega⟩
    rw [spec_l02NameAt.l0, if_neg (by omega), spec_l02NameAt.j1, if_neg (by decide)]
    rfl
  | succ d ih =>
    intro p k h1 h2 hk
    obtain ⟨k, rfl⟩ : ∃ m, k = m + 1 + 1 := ⟨k - 2, by omega⟩
    rw [spec_l02NameAt.l0]
    by_cases hp : p < x.size
    · rw [if_pos (by omega), spec_l02NameAt.j1]
      by_cases h255 : p < 255
      · have hl : p < (L x).length := by rw [← size_L]; exact hp
        have hc := byte_le (L x)[p]
        have hpi : (p : Int) < 255 := by omega
        rw [if_pos (decide_eq_true hpi), if_pos (by omega), if_pos (by omega), bt_get hl, nmP, drop_at hl]
        generalize (L x)[p] = c at *
        rw [w64 (x := (c.toNat : Int)) (by omega) (by omega)]
        simp only
        by_cases h0 : c.toNat = 0
        · rw [if_pos (by omega), if_pos h0, w64 (by omega) (by omega), if_pos (by omega), if_pos (by omega), if_neg (by omega)]
          congr 1
          apply L_inj
          rw [L_extract, L_B]
          simp
        · rw [if_neg (by omega), if_neg h0]
          by_cases h63 : 63 < c.toNat
          · rw [if_pos (by omega), if_pos h63]; rfl
          · rw [if_neg (by omega), if_neg h63, w64 (x := (p : Int) + (c.toNat : Int)) (by omega) (by omega), w64 (by omega) (by omega)]
            have := ih (p + 1 + c.toNat) k (by omega) (by omega) (by omega)
            rw [← this]
            congr 1
            omega
      · have hpi : ¬ (p : Int) < 255 := by omega
        rw [decide_eq_false hpi, if_neg (by decide), nmP_big _ _ _ (by omega)]
        rfl
    · rw [if_neg (by omega), spec_l02NameAt.j1, if_neg (by decide), nmP, List.drop_of_length_le (by rw [← size_L]; omega)]
      rfl
theorem spec_l02NameAt_eq (x : ByteArray) (hx : x.size ≤ 1000000000) (k : Nat) (hk : 2 * x.size + 4 ≤ k) : spec_l02NameAt.f k x = some (B ((L x).take (nm (L x)))) := by
  unfold spec_l02NameAt.f nm
  rw [← size_L]
  exact spec_l02NameAt_l0 x hx (x.size + 1) 0 k (by omega) (by omega) (by omega)

end Go.Proofs.YtbaajohjglhpfaaDoor.Pure
