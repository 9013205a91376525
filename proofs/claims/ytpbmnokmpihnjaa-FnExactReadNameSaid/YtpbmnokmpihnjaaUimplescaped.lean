/- What impl_escaped computes, in plain words, for enough rounds. Conditions: bounds on the sizes of its arguments, as each statement says. -/
import Derived.Test.YtpbmnokmpihnjaaFx1043
import Derived.Test.YtpbmnokmpihnjaaBase
import Derived.Test.YtpbmnokmpihnjaaBaseText
namespace Go.Proofs.Ytpbmnokmpihnjaa.Pure
open Go.RowKit Go.Proofs.Ytpbmnokmpihnjaa.F Go.Proofs.Ytpbmnokmpihnjaa.Base Go.Proofs.YtpbmnokmpihnjaaW.PrintWords Go.Proofs.YtpbmnokmpihnjaaW.PrintLast Go.Proofs.YtpbmnokmpihnjaaW.PrintMore
set_option linter.unusedVariables false
set_option linter.unusedSimpArgs false
-- base: BaseText
theorem impl_escaped_eq (x : ByteArray) (hx0 : x.size ≤ 1048576) (p r : List UInt8) (q : UInt8) (hx : L x = p ++ q :: r) (k : Nat) (hk : 6 ≤ k) : ∃ j1 j2, impl_escaped.f k x (p.length : Int) = some (match escV r with | none => (j1, j2, false) | some (v, n) => (v, ((p.length + 1 + n : Nat) : Int), true)) := by
  obtain ⟨k, rfl⟩ : ∃ m, k = m + 6 := ⟨k - 6, by omega⟩
  have hs := size_L x
  rw [hx] at hs
  simp only [List.length_append, List.length_cons] at hs
  unfold impl_escaped.f
  simp (maxSteps := 10000000) (disch := omega) only [w64]
  cases r with
  | nil =>
    simp only [List.length_nil] at hs
    rw [if_pos (by omega)]
    exact ⟨0, 0, by simp [escV]⟩
  | cons c t =>
    simp only [List.length_cons] at hs
    have hcb := byte_le c
    have b1 : bt x ((p.length : Int) + 1) = (c.toNat : Int) := bt_mid (p := p ++ [q]) (c := c) (r := t) (by rw [hx]; simp) (by simp)
    rw [if_neg (by omega), if_pos (by omega), if_pos (by omega), b1]
    unfold escV
    by_cases hc : isDigit c
    · have hc' := hc
      unfold isDigit at hc'
      rw [if_neg (by omega)]
      rw [impl_escaped.j0]
      rw [if_neg (by simp; omega)]
      simp (maxSteps := 10000000) (disch := omega) only [w64]
      simp only [hc, not_true_eq_false, if_false]
      match t, hs, hx with
      | [], hs, hx =>
        simp only [List.length_nil] at hs
        rw [if_pos (by omega)]
        exact ⟨0, 0, rfl⟩
      | [d], hs, hx =>
        simp only [List.length_cons, List.length_nil] at hs
        rw [if_pos (by omega)]
        exact ⟨0, 0, rfl⟩
      | d :: e :: u, hs, hx =>
        simp only [List.length_cons] at hs
        have hdb := byte_le d
        have heb := byte_le e
        have b2 : bt x ((p.length : Int) + 1 + 1) = (d.toNat : Int) := bt_mid (p := p ++ [q, c]) (c := d) (r := e :: u) (by rw [hx]; simp) (by simp; omega)
        have b3 : bt x ((p.length : Int) + 1 + 1 + 1) = (e.toNat : Int) := bt_mid (p := p ++ [q, c, d]) (c := e) (r := u) (by rw [hx]; simp) (by simp; omega)
        rw [if_neg (by omega)]
        rw [impl_escaped.l0]
        simp (maxSteps := 10000000) (disch := omega) only [w64]
        rw [if_pos (by omega), if_pos (by omega), if_pos (by omega), b1, if_neg (by omega), if_neg (by omega)]
        rw [Int.emod_eq_of_lt (a := (c.toNat : Int) - 48) (by omega) (by omega)]
        rw [impl_escaped.l0]
        simp (maxSteps := 10000000) (disch := omega) only [w64]
        rw [if_pos (by omega), if_pos (by omega), if_pos (by omega), b2]
        by_cases hd : isDigit d
        · have hd' := hd
          unfold isDigit at hd'
          rw [if_neg (by omega), if_neg (by omega), Int.emod_eq_of_lt (a := (d.toNat : Int) - 48) (by omega) (by omega)]
          rw [impl_escaped.l0]
          simp (maxSteps := 10000000) (disch := omega) only [w64]
          rw [if_pos (by omega), if_pos (by omega), if_pos (by omega), b3]
          by_cases he : isDigit e
          · have he' := he
            unfold isDigit at he'
            rw [if_neg (by omega), if_neg (by omega), Int.emod_eq_of_lt (a := (e.toNat : Int) - 48) (by omega) (by omega)]
            rw [impl_escaped.l0]
            simp (maxSteps := 10000000) (disch := omega) only [w64]
            rw [if_neg (by omega)]
            simp only [hd, he, and_self, if_true]
            by_cases h : ((c.toNat : Int) - 48) * 100 + ((d.toNat : Int) - 48) * 10 + ((e.toNat : Int) - 48) > 255
            · rw [if_pos h, show decide (((0 * 10 + ((c.toNat : Int) - 48)) * 10 + ((d.toNat : Int) - 48)) * 10 + ((e.toNat : Int) - 48) ≤ 255) = false from decide_eq_false (by omega)]
              exact ⟨_, _, rfl⟩
            · rw [if_neg h]
              refine ⟨0, 0, ?_⟩
              rw [show decide (((0 * 10 + ((c.toNat : Int) - 48)) * 10 + ((d.toNat : Int) - 48)) * 10 + ((e.toNat : Int) - 48) ≤ 255) = true from decide_eq_true (by omega), Int.emod_eq_of_lt (by omega) (by omega)]
              simp only [Option.some.injEq, Prod.mk.injEq, and_true]
              constructor <;> omega
          · unfold isDigit at he
            refine ⟨0, 0, ?_⟩
            have : ¬ (isDigit d ∧ isDigit e) := by unfold isDigit; omega
            rw [if_neg this]
            by_cases h48 : (e.toNat : Int) < 48
            · rw [if_pos h48]
            · rw [if_neg h48, if_pos (by omega)]
        · unfold isDigit at hd
          refine ⟨0, 0, ?_⟩
          have : ¬ (isDigit d ∧ isDigit e) := by unfold isDigit; omega
          rw [if_neg this]
          by_cases h48 : (d.toNat : Int) < 48
          · rw [if_pos h48]
          · rw [if_neg h48, if_pos (by omega)]
    · unfold isDigit at hc
      have hnc : ¬ isDigit c := hc
      refine ⟨0, 0, ?_⟩
      simp only [hnc, not_false_eq_true, if_true]
      rw [impl_escaped.j0, impl_escaped.j0]
      simp (maxSteps := 10000000) (disch := omega) only [w64]
      by_cases h48 : (c.toNat : Int) < 48
      · rw [if_pos h48]
        simp; omega
      · rw [if_neg h48, if_pos (by simp; omega)]
        simp; omega

end Go.Proofs.Ytpbmnokmpihnjaa.Pure
