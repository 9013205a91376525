/- What spec_l01Escape computes, in plain words, for enough rounds. Conditions: bounds on the sizes of its arguments, as each statement says. -/
import Derived.Test.YtpbmnokmpihnjaaFx1031
import Derived.Test.YtpbmnokmpihnjaaFx1064
import Derived.Test.YtpbmnokmpihnjaaBase
import Derived.Test.YtpbmnokmpihnjaaBaseText
namespace Go.Proofs.Ytpbmnokmpihnjaa.Pure
open Go.RowKit Go.Proofs.Ytpbmnokmpihnjaa.F Go.Proofs.Ytpbmnokmpihnjaa.Base Go.Proofs.YtpbmnokmpihnjaaW.PrintWords Go.Proofs.YtpbmnokmpihnjaaW.PrintLast Go.Proofs.YtpbmnokmpihnjaaW.PrintMore
set_option linter.unusedVariables false
set_option linter.unusedSimpArgs false
-- base: BaseText
theorem spec_l01Digit_eq (c : UInt8) : spec_l01Digit.f (c.toNat : Int) = some (decide (isDigit c)) := by
  unfold spec_l01Digit.f
  by_cases hd : isDigit c
  · rw [decide_eq_true hd]
    unfold isDigit at hd
    rw [if_pos (by omega), decide_eq_true (by omega)]
  · rw [decide_eq_false hd]
    unfold isDigit at hd
    by_cases h : (c.toNat : Int) ≥ 48
    · rw [if_pos h, decide_eq_false (by omega)]
    · rw [if_neg h]
theorem spec_l01Escape_eq (a : ByteArray) (k : Nat) (hk : 1 ≤ k) : spec_l01Escape.f k a = some (match escV (L a) with | none => (0, 0) | some (v, n) => (v, (n : Int))) := by
  obtain ⟨k, rfl⟩ : ∃ m, k = m + 1 := ⟨k - 1, by omega⟩
  have hs := size_L a
  unfold spec_l01Escape.f
  rw [toL]
  cases ha : L a with
  | nil => rw [if_pos rfl]; simp [escV]
  | cons c t =>
    rw [ha] at hs
    simp only [List.length_cons] at hs
    rw [if_neg (by simp), if_pos (by omega), bt_cons ha, spec_l01Digit_eq]
    simp only [Option.bind_some]
    unfold escV
    by_cases hc : isDigit c
    · simp only [hc, decide_true, not_true_eq_false, if_false, if_true]
      cases t with
      | nil =>
        simp only [List.length_nil] at hs
        rw [if_pos (by omega)]
        simp [spec_l01Escape.j0]
      | cons d u =>
        cases u with
        | nil =>
          simp only [List.length_cons, List.length_nil] at hs
          rw [if_pos (by omega)]
          simp [spec_l01Escape.j0]
        | cons e u =>
          simp only [List.length_cons] at hs
          have b1 : bt a 1 = (d.toNat : Int) := bt_mid (p := [c]) ha rfl
          have b2 : bt a 2 = (e.toNat : Int) := bt_mid (p := [c, d]) ha rfl
          have hcb := byte_le c
          have hdb := byte_le d
          have heb := byte_le e
          rw [if_neg (by omega), if_pos (by omega), b1, spec_l01Digit_eq]
          simp only [Option.bind_some]
          by_cases hd : isDigit d
          · simp only [hd, decide_true, if_true, true_and]
            rw [if_pos (by omega), b2, spec_l01Digit_eq]
            simp only [Option.bind_some]
            by_cases he : isDigit e
            · simp only [he, decide_true, if_true, spec_l01Escape.j0, Bool.not_true, Bool.false_eq_true, if_false]
              rw [if_pos (by omega), if_pos (by omega), if_pos (by omega), bt_cons ha, b1, b2]
              have hc' := hc
              have hd' := hd
              have he' := he
              unfold isDigit at hc' hd' he'
              rw [Int.emod_eq_of_lt (a := (c.toNat : Int) - 48) (by omega) (by omega), Int.emod_eq_of_lt (a := (d.toNat : Int) - 48) (by omega) (by omega), Int.emod_eq_of_lt (a := (e.toNat : Int) - 48) (by omega) (by omega)]
              by_cases h : ((c.toNat : Int) - 48) * 100 + ((d.toNat : Int) - 48) * 10 + ((e.toNat : Int) - 48) > 255
              · rw [if_pos h, if_pos h]
              · rw [if_neg h, if_neg h, Int.emod_eq_of_lt (by omega) (by omega)]
                simp
            · simp [he, spec_l01Escape.j0]
          · simp [hd, spec_l01Escape.j0]
    · simp [hc]

end Go.Proofs.Ytpbmnokmpihnjaa.Pure
