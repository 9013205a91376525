/- What spec_l02Map computes, in plain words, for enough rounds. Conditions: bounds on the sizes of its arguments, as each statement says. -/
import Derived.Test.YtbaajohjglhpfaaDoorFx1039
import Derived.Test.YtbaajohjglhpfaaDoorBase
import Derived.Test.YtbaajohjglhpfaaDoorBaseMap
namespace Go.Proofs.YtbaajohjglhpfaaDoor.Pure
open Go.RowKit Go.Proofs.YtbaajohjglhpfaaDoor.F Go.Proofs.YtbaajohjglhpfaaDoor.Base Go.Proofs.YtbaajohjglhpfaaDoorW.PrintWords Go.Proofs.YtbaajohjglhpfaaDoorW.PrintLast Go.Proofs.YtbaajohjglhpfaaDoorW.PrintMore
set_option linter.unusedVariables false
set_option linter.unusedSimpArgs false
-- base: BaseMap
theorem spec_l02Map_l0 : ∀ (N k : Nat) (x : ByteArray) (last : Int), x.size ≤ N → N < k → spec_l02Map.l0 k x last = some (tmap last (L x)).isSome := by
  intro N
  induction N with
  | zero =>
    intro k x last hn hk
    obtain ⟨k, rfl⟩ : ∃ m, k = m + 1 := ⟨k - 1, by omega⟩
    have hs := size_L x
    have hx : L x = [] := List.length_eq_zero_iff.1 (by omega)
    simp only [spec_l02Map.l0, toL]
    rw [if_pos hx, hx]
    simp [tmap]
  | succ N ih =>
    intro k x last hn hk
    obtain ⟨k, rfl⟩ : ∃ m, k = m + 1 := ⟨k - 1, by omega⟩
    have hs := size_L x
    simp only [spec_l02Map.l0, toL]
    match hx : L x with
    | [] => rw [if_pos rfl]; simp [tmap]
    | [c] =>
      rw [hx] at hs
      simp only [List.length_cons, List.length_nil] at hs
      rw [if_neg (by simp), if_pos (by omega)]
      simp [tmap]
    | w :: n :: r =>
      rw [hx] at hs
      simp only [List.length_cons] at hs
      have hw := byte_le w
      have hnb := byte_le n
      have b0 : bt x 0 = (w.toNat : Int) := bt_cons hx
      have b1 : bt x 1 = (n.toNat : Int) := bt_mid (p := [w]) hx rfl
      rw [if_neg (by simp), if_neg (by omega), if_pos (by omega), if_pos (by omega), b0, b1]
      simp (maxSteps := 10000000) (disch := omega) only [w64]
      rw [tmap]
      by_cases h1 : (w.toNat : Int) ≤ last
      · rw [if_pos h1, if_pos h1]; rfl
      · rw [if_neg h1, if_neg h1]
        by_cases h2 : n.toNat < 1
        · rw [if_pos (by omega), if_pos h2]; rfl
        · rw [if_neg (by omega), if_neg h2]
          by_cases h3 : 32 < n.toNat
          · rw [if_pos (by omega), if_pos h3]; rfl
          · rw [if_neg (by omega), if_neg h3]
            by_cases h4 : r.length < n.toNat
            · rw [if_pos (by omega), if_pos h4]; rfl
            · rw [if_neg (by omega), if_neg h4, if_pos (by omega), if_pos (by omega)]
              have b2 : bt x ((n.toNat : Int) + 1) = ((r.getD (n.toNat - 1) 0).toNat : Int) := by
                rw [bt_L, hx, show ((n.toNat : Int) + 1).toNat = (n.toNat - 1) + 2 from by omega]
                simp [List.getD_eq_getElem?_getD]
              rw [b2]
              by_cases h5 : (r.getD (n.toNat - 1) 0).toNat = 0
              · rw [if_pos (by omega), if_pos h5]; rfl
              · rw [if_neg (by omega), if_neg h5, if_pos (by omega), if_pos (by omega)]
                have e2 : L (x.extract ((n.toNat : Int) + 2).toNat x.size) = r.drop n.toNat := by
                  rw [L_extract, hx, hs, show ((n.toNat : Int) + 2).toNat = n.toNat + 2 from by omega]
                  simp [List.take_of_length_le]
                rw [ih k _ _ (by rw [size_L, e2]; simp; omega) (by omega), e2]
                cases tmap (w.toNat : Int) (r.drop n.toNat) <;> simp
theorem spec_l02Map_eq (a : ByteArray) (k : Nat) (hk : a.size < k) : spec_l02Map.f k a = some (tmap (-1) (L a)).isSome := by
  unfold spec_l02Map.f
  exact spec_l02Map_l0 a.size k a (-1) (Nat.le_refl _) hk

end Go.Proofs.YtbaajohjglhpfaaDoor.Pure
