/- What impl_decimal computes, in plain words, for enough rounds. Conditions: bounds on the sizes of its arguments, as each statement says. -/
import Derived.Test.YtpbmnokmpihnjaaFx1033
import Derived.Test.YtpbmnokmpihnjaaBase
import Derived.Test.YtpbmnokmpihnjaaBaseTTL
namespace Go.Proofs.Ytpbmnokmpihnjaa.Pure
open Go.RowKit Go.Proofs.Ytpbmnokmpihnjaa.F Go.Proofs.Ytpbmnokmpihnjaa.Base Go.Proofs.YtpbmnokmpihnjaaW.PrintWords Go.Proofs.YtpbmnokmpihnjaaW.PrintLast Go.Proofs.YtpbmnokmpihnjaaW.PrintMore
set_option linter.unusedVariables false
set_option linter.unusedSimpArgs false
-- base: BaseTTL
theorem impl_decimal_l0 (x : ByteArray) (hx : x.size ≤ 10) : ∀ (l p : List UInt8) (n : Int) (k : Nat), L x = p ++ l → 0 ≤ n → n < 10 ^ p.length → l.length < k → impl_decimal.l0 k x n (p.length : Int) = some ((dec n l).getD (-1)) := by
  intro l
  induction l with
  | nil =>
    intro p n k h h0 h1 hk
    obtain ⟨k, rfl⟩ : ∃ m, k = m + 1 := ⟨k - 1, by simp at hk; omega⟩
    have hz : x.size = p.length := by rw [size_L, h]; simp
    rw [impl_decimal.l0, if_neg (by omega)]
    rfl
  | cons c r ih =>
    intro p n k h h0 h1 hk
    obtain ⟨k, rfl⟩ : ∃ m, k = m + 1 := ⟨k - 1, by simp at hk; omega⟩
    have hz : x.size = p.length + (r.length + 1) := by rw [size_L, h]; simp
    have hc := byte_le c
    have hp : (10 : Int) ^ p.length ≤ 1000000000 := by
      rcases (by omega : p.length = 0 ∨ p.length = 1 ∨ p.length = 2 ∨ p.length = 3 ∨ p.length = 4 ∨ p.length = 5 ∨ p.length = 6 ∨ p.length = 7 ∨ p.length = 8 ∨ p.length = 9) with e | e | e | e | e | e | e | e | e | e <;> rw [e] <;> decide
    rw [impl_decimal.l0, if_pos (by omega), if_pos (by omega), bt_mid h rfl, dec]
    by_cases hd : dig c
    · have hr := (dig_iff c).1 hd
      rw [if_pos hd, if_neg (by omega), if_neg (by omega), Int.emod_eq_of_lt (a := (c.toNat : Int) - 48) (b := 256) (by omega) (by omega), w64 (x := n * 10) (by omega) (by omega), w64 (x := n * 10 + ((c.toNat : Int) - 48)) (by omega) (by omega), w64 (x := (p.length : Int) + 1) (by omega) (by omega)]
      have e : (p.length : Int) + 1 = ((p ++ [c]).length : Int) := by simp
      rw [e]
      exact ih (p ++ [c]) _ k (by rw [h]; simp) (by omega) (by rw [List.length_append, List.length_singleton, Int.pow_succ]; omega) (by simp at hk; omega)
    · have hr : ¬ (48 ≤ (c.toNat : Int) ∧ (c.toNat : Int) ≤ 57) := fun e => hd ((dig_iff c).2 e)
      rw [if_neg hd]
      by_cases h1 : (c.toNat : Int) < 48
      · rw [if_pos h1]; rfl
      · rw [if_neg h1, if_pos (by omega)]; rfl
theorem impl_decimal_eq (x : ByteArray) (m : Int) (m' : Nat) (hm : m = (m' : Int)) (hm2 : m' ≤ 10) (k : Nat) (hk : 13 ≤ k) : impl_decimal.f k x m = some ((dnum (L x) m').getD (-1)) := by
  subst hm
  obtain ⟨k, rfl⟩ : ∃ j, k = j + 1 := ⟨k - 1, by omega⟩
  have hs := size_L x
  unfold impl_decimal.f dnum
  by_cases h1 : (x.size : Int) < 1
  · rw [if_pos h1, impl_decimal.j0, if_pos rfl, if_pos (by omega)]; rfl
  · rw [if_neg h1]
    by_cases h2 : (x.size : Int) > (m' : Int)
    · rw [decide_eq_true h2, impl_decimal.j0, if_pos rfl, if_pos (by omega)]; rfl
    · rw [decide_eq_false h2, impl_decimal.j0, if_neg (by decide), if_neg (by omega)]
      have := impl_decimal_l0 x (by omega) (L x) [] 0 k rfl (by decide) (by decide) (by omega)
      simpa using this

end Go.Proofs.Ytpbmnokmpihnjaa.Pure
