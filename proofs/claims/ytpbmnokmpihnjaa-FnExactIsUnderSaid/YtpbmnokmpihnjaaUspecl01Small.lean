/- What spec_l01Small computes, in plain words, for enough rounds. Conditions: bounds on the sizes of its arguments, as each statement says. -/
import Derived.Test.YtpbmnokmpihnjaaFx1077
import Derived.Test.YtpbmnokmpihnjaaBase
import Derived.Test.YtpbmnokmpihnjaaBaseName
namespace Go.Proofs.Ytpbmnokmpihnjaa.Pure
open Go.RowKit Go.Proofs.Ytpbmnokmpihnjaa.F Go.Proofs.Ytpbmnokmpihnjaa.Base Go.Proofs.YtpbmnokmpihnjaaW.PrintWords Go.Proofs.YtpbmnokmpihnjaaW.PrintLast Go.Proofs.YtpbmnokmpihnjaaW.PrintMore
set_option linter.unusedVariables false
set_option linter.unusedSimpArgs false
-- base: BaseName
theorem spec_l01Small_l0 (x : ByteArray) (hx0 : x.size ≤ 1048576) : ∀ (n k : Nat) (acc : List Int) (p r : List UInt8), L x = p ++ r → r.length ≤ n → n < k → acc.length + r.length ≤ 1048576 → spec_l01Small.l0 k x acc (p.length : Int) = some (strOfNums (acc ++ r.map fun c => ((low c).toNat : Int))) := by
  intro n
  induction n with
  | zero =>
    intro k acc p r hx hn hk hb
    obtain ⟨k, rfl⟩ : ∃ m, k = m + 1 := ⟨k - 1, by omega⟩
    obtain rfl : r = [] := List.length_eq_zero_iff.1 (by omega)
    have hs := size_L x
    rw [hx] at hs
    simp only [List.append_nil] at hs
    rw [spec_l01Small.l0, if_neg (by omega)]
    simp
  | succ n ih =>
    intro k acc p r hx hn hk hb
    obtain ⟨k, rfl⟩ : ∃ m, k = m + 1 := ⟨k - 1, by omega⟩
    have hs := size_L x
    rw [hx] at hs
    rw [spec_l01Small.l0]
    cases r with
    | nil =>
      simp only [List.append_nil] at hs
      rw [if_neg (by omega)]
      simp
    | cons c r =>
      simp only [List.length_append, List.length_cons] at hs hn hb
      have hc := byte_le c
      rw [if_pos (by omega), if_pos (by omega), bt_mid hx rfl, w64 (by omega) (by omega)]
      have key : ∀ v : Int, v = ((low c).toNat : Int) → (if acc.length < 140737488355328 then spec_l01Small.l0 k x (acc ++ [v]) ((p.length : Int) + 1) else none) = some (strOfNums (acc ++ (c :: r).map fun c => ((low c).toNat : Int))) := by
        intro v hv
        rw [if_pos (by omega), show (p.length : Int) + 1 = ((p ++ [c]).length : Int) by simp, ih k _ (p ++ [c]) r (by rw [hx]; simp) (by omega) (by omega) (by simp; omega), hv]
        simp
      have hlow := low_toNat c
      by_cases h1 : (c.toNat : Int) ≥ 65
      · rw [if_pos h1]
        by_cases h2 : (c.toNat : Int) ≤ 90
        · rw [if_pos h2]
          rw [if_pos (by omega)] at hlow
          exact key _ (by omega)
        · rw [if_neg h2]
          rw [if_neg (by omega)] at hlow
          exact key _ (by omega)
      · rw [if_neg h1]
        rw [if_neg (by omega)] at hlow
        exact key _ (by omega)
theorem spec_l01Small_eq (a : ByteArray) (ha : a.size ≤ 1048576) (k : Nat) (hk : a.size < k) : spec_l01Small.f k a = some (foldB a) := by
  have hs := size_L a
  unfold spec_l01Small.f
  have h := spec_l01Small_l0 a ha (L a).length k [] [] (L a) rfl (Nat.le_refl _) (by omega) (by simp; omega)
  rw [show (([] : List UInt8).length : Int) = 0 from rfl] at h
  rw [h]
  congr 1
  apply L_inj
  rw [L_strOfNums, L_foldB]
  simp

end Go.Proofs.Ytpbmnokmpihnjaa.Pure
