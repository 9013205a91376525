/- What spec_l01Split computes, in plain words, for enough rounds. Conditions: bounds on the sizes of its arguments, as each statement says. -/
import Derived.Test.YtpbmnokmpihnjaaFx1034
import Derived.Test.YtpbmnokmpihnjaaBase
namespace Go.Proofs.Ytpbmnokmpihnjaa.Pure
open Go.RowKit Go.Proofs.Ytpbmnokmpihnjaa.F Go.Proofs.Ytpbmnokmpihnjaa.Base Go.Proofs.YtpbmnokmpihnjaaW.PrintWords Go.Proofs.YtpbmnokmpihnjaaW.PrintLast Go.Proofs.YtpbmnokmpihnjaaW.PrintMore
set_option linter.unusedVariables false
set_option linter.unusedSimpArgs false
theorem spec_l01Split_l0 : ∀ (n k : Nat) (acc : List ByteArray) (x : ByteArray), x.size ≤ n → n < k → acc.length + x.size ≤ 300 → spec_l01Split.l0 k acc x = some (res acc (labs (L x))) := by
  intro n
  induction n with
  | zero =>
    intro k acc x hn hk hb
    obtain ⟨k, rfl⟩ : ∃ m, k = m + 1 := ⟨k - 1, by omega⟩
    have hs := size_L x
    have hx : L x = [] := List.length_eq_zero_iff.1 (by omega)
    simp only [spec_l01Split.l0, toL]
    rw [if_pos hx, hx]
    simp [labs, res]
  | succ n ih =>
    intro k acc x hn hk hb
    obtain ⟨k, rfl⟩ : ∃ m, k = m + 1 := ⟨k - 1, by omega⟩
    have hs := size_L x
    simp only [spec_l01Split.l0, toL]
    cases hx : L x with
    | nil => rw [if_pos rfl]; simp [labs, res]
    | cons c r =>
      rw [hx] at hs
      simp only [List.length_cons] at hs
      have hc := byte_le c
      rw [bt_cons hx, if_neg (by simp), if_pos (by omega)]
      simp (maxSteps := 10000000) (disch := omega) only [w64]
      rw [labs]
      by_cases h0 : c.toNat = 0
      · rw [if_pos (by omega), if_pos h0]
        by_cases hr : r = []
        · rw [if_pos (by subst hr; simp at hs; omega), if_pos hr]; simp [res]
        · rw [if_neg (by intro h; exact hr (List.length_eq_zero_iff.1 (by omega))), if_neg hr]; simp [res]
      · rw [if_neg (by omega), if_neg h0]
        by_cases h63 : 63 < c.toNat
        · rw [if_pos (by omega), if_pos h63]; simp [res]
        · rw [if_neg (by omega), if_neg h63]
          by_cases hl : r.length < c.toNat
          · rw [if_pos (by omega), if_pos hl]; simp [res]
          · rw [if_neg (by omega), if_neg hl, if_pos (by omega), if_pos (by omega), if_pos (by omega), if_pos (by omega)]
            have e0 : ((c.toNat : Int) + 1).toNat = c.toNat + 1 := by omega
            rw [e0]
            have e1 : x.extract 1 (c.toNat + 1) = B (r.take c.toNat) := L_inj (by rw [L_extract, hx, L_B]; simp)
            have e2 : L (x.extract (c.toNat + 1) x.size) = r.drop c.toNat := by rw [L_extract, hx, hs]; simp [List.take_of_length_le]
            have e3 : (x.extract (c.toNat + 1) x.size).size = r.length - c.toNat := by rw [size_L, e2]; simp
            rw [ih k _ _ (by omega) (by omega) (by simp; omega), e1, e2, res_map]
theorem spec_l01Split_eq (a : ByteArray) (k : Nat) (hk : 400 ≤ k) : spec_l01Split.f k a = some (res [] (names (L a))) := by
  obtain ⟨k, rfl⟩ : ∃ m, k = m + 1 := ⟨k - 1, by omega⟩
  have hs := size_L a
  unfold spec_l01Split.f names
  simp only [Option.bind_some, spec_l01Split.j0]
  by_cases h1 : (L a).length < 1
  · rw [if_pos (by omega), if_pos trivial, if_pos (by omega)]; simp [res]
  · rw [if_neg (by omega)]
    by_cases h2 : 255 < (L a).length
    · rw [if_pos (by simp; omega), if_pos (by omega)]; simp [res]
    · rw [if_neg (by simp; omega), if_neg (by omega)]
      exact spec_l01Split_l0 a.size k [] a (Nat.le_refl _) (by omega) (by simp; omega)

end Go.Proofs.Ytpbmnokmpihnjaa.Pure
