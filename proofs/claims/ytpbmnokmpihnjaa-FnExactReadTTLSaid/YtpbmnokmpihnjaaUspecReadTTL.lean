/- What spec_ReadTTL computes, in plain words, for enough rounds. Conditions: bounds on the sizes of its arguments, as each statement says. -/
import Derived.Test.YtpbmnokmpihnjaaFx1010
import Derived.Test.YtpbmnokmpihnjaaBase
import Derived.Test.YtpbmnokmpihnjaaBaseTTL
import Derived.Test.YtpbmnokmpihnjaaUspecl01Digit
import Derived.Test.YtpbmnokmpihnjaaUspecl03Number
import Derived.Test.YtpbmnokmpihnjaaUspecl03Unit
namespace Go.Proofs.Ytpbmnokmpihnjaa.Pure
open Go.RowKit Go.Proofs.Ytpbmnokmpihnjaa.F Go.Proofs.Ytpbmnokmpihnjaa.Base Go.Proofs.YtpbmnokmpihnjaaW.PrintWords Go.Proofs.YtpbmnokmpihnjaaW.PrintLast Go.Proofs.YtpbmnokmpihnjaaW.PrintMore
set_option linter.unusedVariables false
set_option linter.unusedSimpArgs false
-- base: BaseTTL
theorem spec_ReadTTL_l0 (x : ByteArray) (hx : x.size ≤ 60) : ∀ (l pre pend : List UInt8) (s : Int) (k : Nat), L x = pre ++ pend ++ l → 0 ≤ s → s ≤ pre.length * 6047999999395200 → l.length + 70 ≤ k →
    spec_ReadTTL.l0 k x s (pre.length : Int) ((pre.length + pend.length : Nat) : Int) = some (ttl s pend (decide (pre ≠ [])) l) := by
  intro l
  induction l with
  | nil =>
    intro pre pend s k h h0 h1 hk
    obtain ⟨k, rfl⟩ : ∃ m, k = m + 1 := ⟨k - 1, by simp at hk; omega⟩
    have hz : x.size = pre.length + pend.length := by rw [size_L, h]; simp
    rw [spec_ReadTTL.l0, if_neg (by omega)]
    by_cases hp : pend = []
    · subst hp
      rw [if_pos (by rw [hz]; simp)]
      by_cases h2 : pre = []
      · subst h2; rw [if_pos (by rfl)]; rfl
      · have : pre.length ≠ 0 := fun e => h2 (List.eq_nil_of_length_eq_zero e)
        have e2 : ttl s [] (decide (pre ≠ [])) [] = if s > 2147483647 then (0, 18) else (s, 0) := by rw [ttl, if_pos ⟨rfl, by simp [h2]⟩]
        rw [if_neg (by omega), e2]
        split <;> rfl
    · have : pend.length ≠ 0 := fun e => hp (List.eq_nil_of_length_eq_zero e)
      rw [if_neg (by omega), show ttl s pend (decide (pre ≠ [])) [] = (0, 18) from by rw [ttl, if_neg (fun e => hp e.1)]]
  | cons c r ih =>
    intro pre pend s k h h0 h1 hk
    obtain ⟨k, rfl⟩ : ∃ m, k = m + 1 := ⟨k - 1, by simp at hk; omega⟩
    have hz : x.size = pre.length + pend.length + (r.length + 1) := by rw [size_L, h]; simp; omega
    have hb : bt x ((pre.length + pend.length : Nat) : Int) = (c.toNat : Int) := bt_mid h (by simp)
    simp only [List.length_cons] at hk
    rw [spec_ReadTTL.l0, if_pos (by omega), if_pos (by omega), hb, spec_l01Digit_dig, Option.bind_some, ttl]
    by_cases hd : dig c
    · rw [if_pos hd, if_pos hd, w64 (by omega) (by omega)]
      have := ih pre (pend ++ [c]) s k (by rw [h]; simp) h0 h1 (by omega)
      rw [← this]
      congr 1
      simp
      omega
    · have hex : L (x.extract ((pre.length : Int)).toNat (((pre.length + pend.length : Nat) : Int)).toNat) = pend := by
        rw [L_extract, h, Int.toNat_natCast, Int.toNat_natCast, List.append_assoc, List.drop_left, show pre.length + pend.length - pre.length = pend.length from by omega, List.take_left]
      rw [if_neg hd, if_neg hd, if_pos (by omega), if_pos (by omega), if_pos (by omega), spec_l03Number_eq _ 10 10 rfl (by omega) k (by omega), Option.bind_some, hex]
      cases hn : dnum pend 10 with
      | none => rfl
      | some n =>
        have hnb := dnum_bound hn (by omega)
        have hub := unit_bound c.toNat
        simp only [Option.isSome_some, if_true, Option.getD_some]
        rw [spec_l03Unit_eq c k (by omega), Option.bind_some]
        by_cases hu : unit c.toNat = 0
        · rw [if_pos hu, if_pos hu]
        · have hm0 : 0 ≤ n * unit c.toNat := Int.mul_nonneg hnb.1 hub.1
          have hm1 : n * unit c.toNat ≤ 9999999999 * 604800 := Int.mul_le_mul hnb.2 hub.2 hub.1 (by omega)
          have hpl : (pre.length : Int) ≤ 60 := by omega
          rw [if_neg hu, if_neg hu, Option.bind_some, w64 (x := n * unit c.toNat) (by omega) (by omega), w64 (by omega) (by omega), w64 (by omega) (by omega)]
          have := ih (pre ++ pend ++ [c]) [] (s + n * unit c.toNat) k (by rw [h]; simp) (by omega) (by simp only [List.length_append, List.length_singleton]; push_cast; omega) (by omega)
          rw [show decide (pre ++ pend ++ [c] ≠ []) = true from by simp] at this
          rw [← this]
          congr 1 <;> simp <;> omega
theorem spec_ReadTTL_eq (x : ByteArray) (k : Nat) (hk : 140 ≤ k) : spec_ReadTTL.f k x = some (ttlAll x) := by
  unfold spec_ReadTTL.f ttlAll
  by_cases h : 60 < x.size
  · rw [if_pos (by omega), if_pos h]
  · have hz := size_L x
    have hl : ∀ k, 130 ≤ k → spec_ReadTTL.l0 k x 0 0 0 = some (ttl 0 [] false (L x)) := fun k hk => spec_ReadTTL_l0 x (by omega) (L x) [] [] 0 k rfl (by decide) (by simp) (by omega)
    obtain ⟨k, rfl⟩ : ∃ m, k = m + 1 := ⟨k - 1, by omega⟩
    rw [if_neg (by omega), if_neg h, spec_l03Number_eq x 10 10 rfl (by omega) (k + 1) (by omega), Option.bind_some]
    cases hn : dnum (L x) 10 with
    | none =>
      simp only [Option.isSome_none, Bool.false_eq_true, if_false]
      rw [spec_ReadTTL.j0, if_neg (by decide), hl k (by omega)]
    | some n =>
      simp only [Option.isSome_some, if_true, Option.getD_some]
      rw [spec_ReadTTL.j0]
      by_cases hm : n ≤ 2147483647
      · rw [if_pos (by simpa using hm), if_pos hm]
      · rw [if_neg (by simpa using hm), if_neg hm, hl k (by omega)]
        unfold dnum at hn
        split at hn
        · cases hn
        · rename_i h1
          rw [ttl_digits (L x) [] 0 false (dec_all _ _ _ hn) (by intro e; rw [List.nil_append] at e; rw [e] at h1; simp at h1)]

end Go.Proofs.Ytpbmnokmpihnjaa.Pure
