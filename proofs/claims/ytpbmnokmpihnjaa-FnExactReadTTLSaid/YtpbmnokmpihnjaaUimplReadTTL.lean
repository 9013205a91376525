/- What impl_ReadTTL computes, in plain words, for enough rounds. Conditions: bounds on the sizes of its arguments, as each statement says. -/
import Derived.Test.YtpbmnokmpihnjaaFx1011
import Derived.Test.YtpbmnokmpihnjaaBase
import Derived.Test.YtpbmnokmpihnjaaBaseTTL
import Derived.Test.YtpbmnokmpihnjaaUimpldecimal
namespace Go.Proofs.Ytpbmnokmpihnjaa.Pure
open Go.RowKit Go.Proofs.Ytpbmnokmpihnjaa.F Go.Proofs.Ytpbmnokmpihnjaa.Base Go.Proofs.YtpbmnokmpihnjaaW.PrintWords Go.Proofs.YtpbmnokmpihnjaaW.PrintLast Go.Proofs.YtpbmnokmpihnjaaW.PrintMore
set_option linter.unusedVariables false
set_option linter.unusedSimpArgs false
-- base: BaseTTL
theorem xunit_all : ∀ n : Fin 256, xunit.f (Go.bits .or .u8 (n.val : Int) 32) = some (unit n.val) := by decide +kernel
theorem xunit_eq (c : UInt8) : xunit.f (Go.bits .or .u8 (c.toNat : Int) 32) = some (unit c.toNat) := xunit_all ⟨c.toNat, c.toNat_lt⟩
theorem impl_ReadTTL_l1 (x : ByteArray) (hx : x.size ≤ 60) : ∀ (l pre pend : List UInt8) (s : Int) (k : Nat), L x = pre ++ pend ++ l → pend ++ l ≠ [] → 0 ≤ s → s ≤ pre.length * 6047999999395200 → 4 * l.length + 90 ≤ k →
    impl_ReadTTL.l1 k x s (pre.length : Int) ((pre.length + pend.length : Nat) : Int) = some (ttl s pend (decide (pre ≠ [])) l) := by
  intro l
  induction l with
  | nil =>
    intro pre pend s k h hne h0 h1 hk
    obtain ⟨k, rfl⟩ : ∃ m, k = m + 1 + 1 + 1 := ⟨k - 3, by simp at hk; omega⟩
    have hz : x.size = pre.length + pend.length := by rw [size_L, h]; simp
    have hp : pend ≠ [] := by simpa using hne
    have hex : L (x.extract ((pre.length : Int)).toNat (((pre.length + pend.length : Nat) : Int)).toNat) = pend := by
      rw [L_extract, h, Int.toNat_natCast, Int.toNat_natCast, List.append_nil, List.drop_left, show pre.length + pend.length - pre.length = pend.length from by omega, List.take_length]
    simp only [List.length_nil] at hk
    rw [impl_ReadTTL.l1, if_neg (by omega), impl_ReadTTL.j2, if_pos (by omega), if_pos (by omega), if_pos (by omega), impl_decimal_eq _ 10 10 rfl (by omega) (k + 1) (by omega), Option.bind_some, hex, show ttl s pend (decide (pre ≠ [])) [] = (0, 18) from by rw [ttl, if_neg (fun e => hp e.1)]]
    split
    · rw [impl_ReadTTL.j3, if_pos rfl]
    · rw [show (((pre.length + pend.length : Nat) : Int) == (x.size : Int)) = true from by rw [hz]; simp, impl_ReadTTL.j3, if_pos rfl]
  | cons c r ih =>
    intro pre pend s k h hne h0 h1 hk
    obtain ⟨k, rfl⟩ : ∃ m, k = m + 1 + 1 + 1 + 1 := ⟨k - 4, by simp at hk; omega⟩
    have hz : x.size = pre.length + pend.length + (r.length + 1) := by rw [size_L, h]; simp; omega
    have hb : bt x ((pre.length + pend.length : Nat) : Int) = (c.toNat : Int) := bt_mid h (by simp)
    simp only [List.length_cons] at hk
    by_cases hd : dig c
    · have hr := (dig_iff c).1 hd
      rw [impl_ReadTTL.l1, if_pos (by omega), if_pos (by omega), hb, if_pos (by omega), if_pos (by omega), ttl, if_pos hd, w64 (by omega) (by omega)]
      have := ih pre (pend ++ [c]) s (k + 1 + 1 + 1) (by rw [h]; simp) (by simp) h0 h1 (by omega)
      rw [← this]
      congr 1
      simp
      omega
    · have hr : ¬ (48 ≤ (c.toNat : Int) ∧ (c.toNat : Int) ≤ 57) := fun e => hd ((dig_iff c).2 e)
      have hex : L (x.extract ((pre.length : Int)).toNat (((pre.length + pend.length : Nat) : Int)).toNat) = pend := by
        rw [L_extract, h, Int.toNat_natCast, Int.toNat_natCast, List.append_assoc, List.drop_left, show pre.length + pend.length - pre.length = pend.length from by omega, List.take_left]
      have e1 : impl_ReadTTL.l1 (k + 1 + 1 + 1 + 1) x s (pre.length : Int) ((pre.length + pend.length : Nat) : Int) = impl_ReadTTL.j2 (k + 1 + 1 + 1) x s (pre.length : Int) ((pre.length + pend.length : Nat) : Int) := by
        rw [impl_ReadTTL.l1, if_pos (by omega), if_pos (by omega), hb]
        by_cases h5 : (c.toNat : Int) ≥ 48
        · rw [if_pos h5, if_neg (by omega)]
        · rw [if_neg h5]
      rw [e1, impl_ReadTTL.j2, if_pos (by omega), if_pos (by omega), if_pos (by omega), impl_decimal_eq _ 10 10 rfl (by omega) (k + 1 + 1) (by omega), Option.bind_some, hex, ttl, if_neg hd]
      cases hn : dnum pend 10 with
      | none => rw [Option.getD_none, if_pos (by decide), impl_ReadTTL.j3, if_pos rfl]
      | some n =>
        have hnb := dnum_bound hn (by omega)
        have hub := unit_bound c.toNat
        rw [Option.getD_some, if_neg (by omega), show (((pre.length + pend.length : Nat) : Int) == (x.size : Int)) = false from by rw [hz]; simp; omega, impl_ReadTTL.j3, if_neg (by decide), if_pos (by omega), if_pos (by omega), hb, xunit_eq, Option.bind_some]
        simp only
        by_cases hu : unit c.toNat = 0
        · rw [if_pos hu, if_pos hu]
        · have hbig := unit_big c.toNat hu
          have hm0 : 0 ≤ n * unit c.toNat := Int.mul_nonneg hnb.1 hub.1
          have hm1 : n * unit c.toNat ≤ 9999999999 * 604800 := Int.mul_le_mul hnb.2 hub.2 hub.1 (by omega)
          have hpl : (pre.length : Int) ≤ 60 := by omega
          rw [if_neg hu, if_neg hu, if_neg (by omega), w64 (x := n * unit c.toNat) (by omega) (by omega), w64 (by omega) (by omega), w64 (by omega) (by omega), impl_ReadTTL.l0]
          cases r with
          | nil =>
            simp only [List.length_nil] at hz
            rw [if_neg (by omega), if_neg (by omega)]
            have e2 : ttl (s + n * unit c.toNat) [] true [] = if s + n * unit c.toNat > 2147483647 then (0, 18) else (s + n * unit c.toNat, 0) := by rw [ttl, if_pos ⟨rfl, rfl⟩]
            rw [e2]
            split <;> rfl
          | cons c' r' =>
            simp only [List.length_cons] at hz hk
            rw [if_pos (by omega)]
            have := ih (pre ++ pend ++ [c]) [] (s + n * unit c.toNat) k (by rw [h]; simp) (by simp) (by omega) (by simp only [List.length_append, List.length_singleton]; push_cast; omega) (by simp only [List.length_cons]; omega)
            rw [show decide (pre ++ pend ++ [c] ≠ []) = true from by simp] at this
            rw [← this]
            congr 1 <;> simp <;> omega
theorem impl_ReadTTL_eq (x : ByteArray) (k : Nat) (hk : 400 ≤ k) : impl_ReadTTL.f k x = some (ttlAll x) := by
  unfold impl_ReadTTL.f ttlAll
  by_cases h : 60 < x.size
  · rw [if_pos (by omega), if_pos h]
  · have hz := size_L x
    obtain ⟨k, rfl⟩ : ∃ m, k = m + 1 := ⟨k - 1, by omega⟩
    rw [if_neg (by omega), if_neg h, impl_decimal_eq x 10 10 rfl (by omega) (k + 1) (by omega), Option.bind_some]
    cases hn : dnum (L x) 10 with
    | none =>
      rw [Option.getD_none, if_pos (by decide), impl_ReadTTL.l0]
      by_cases hl : L x = []
      · rw [hl] at hz
        rw [if_neg (by rw [hz]; simp), if_pos rfl, hl, ttl, if_neg (by simp)]
      · have : (L x).length ≠ 0 := fun e => hl (List.eq_nil_of_length_eq_zero e)
        rw [if_pos (by omega)]
        exact impl_ReadTTL_l1 x (by omega) (L x) [] [] 0 k rfl (by simpa using hl) (by decide) (by simp) (by omega)
    | some n =>
      have hnb := dnum_bound hn (by omega)
      rw [Option.getD_some, if_neg (by omega)]
      simp only
      by_cases hm : n ≤ 2147483647
      · rw [if_neg (by omega), if_pos hm]
      · rw [if_pos (by omega), if_neg hm]

end Go.Proofs.Ytpbmnokmpihnjaa.Pure
