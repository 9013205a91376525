/- What impl_IsUnder computes, in plain words, for enough rounds. Conditions: bounds on the sizes of its arguments, as each statement says. -/
import Derived.Test.YtpbmnokmpihnjaaFx1013
import Derived.Test.YtpbmnokmpihnjaaBase
import Derived.Test.YtpbmnokmpihnjaaBaseName
import Derived.Test.YtpbmnokmpihnjaaUimplfold
import Derived.Test.YtpbmnokmpihnjaaUimpljoined
import Derived.Test.YtpbmnokmpihnjaaUimpllabelsOf
namespace Go.Proofs.Ytpbmnokmpihnjaa.Pure
open Go.RowKit Go.Proofs.Ytpbmnokmpihnjaa.F Go.Proofs.Ytpbmnokmpihnjaa.Base Go.Proofs.YtpbmnokmpihnjaaW.PrintWords Go.Proofs.YtpbmnokmpihnjaaW.PrintLast Go.Proofs.YtpbmnokmpihnjaaW.PrintMore
set_option linter.unusedVariables false
set_option linter.unusedSimpArgs false
-- base: BaseName
theorem impl_IsUnder_eq (a b : ByteArray) (k : Nat) (hk : 1000 ≤ k) : impl_IsUnder.f k a b = some (underN a b) := by
  obtain ⟨k, rfl⟩ : ∃ m, k = m + 1 := ⟨k - 1, by omega⟩
  unfold impl_IsUnder.f underN
  cases ha : names (L a) with
  | none =>
    rw [impl_labelsOf_none ha _ (by omega)]
    cases hb : names (L b) with
    | none => rw [impl_labelsOf_none hb _ (by omega)]; simp [impl_IsUnder.j0]
    | some y => rw [impl_labelsOf_some hb _ (by omega)]; simp [impl_IsUnder.j0]
  | some x =>
    rw [impl_labelsOf_some ha _ (by omega)]
    cases hb : names (L b) with
    | none => rw [impl_labelsOf_none hb _ (by omega)]; simp [impl_IsUnder.j0]
    | some y =>
      rw [impl_labelsOf_some hb _ (by omega)]
      obtain ⟨gx, jx, lx⟩ := names_good ha
      obtain ⟨gy, jy, ly⟩ := names_good hb
      have hlx := joinL_len_ge x
      have hly := joinL_len_ge y
      simp only [Option.bind_some, if_true, impl_IsUnder.j0]
      unfold underL
      by_cases h : x.length < y.length
      · rw [if_pos (by simp; omega), decide_eq_false (by omega)]
      · have hd := joinL_len_drop x (x.length - y.length)
        have gd := gx.drop (x.length - y.length)
        have hsb : b.size ≤ 255 := by rw [← jy, size_join]; exact ly
        rw [if_neg (by simp; omega), w64 (by omega) (by omega), if_pos (by omega), if_pos (by omega), show ((x.length : Int) - (y.length : Int)).toNat = x.length - y.length by omega, impl_joined_eq _ (by omega)]
        simp only [Option.bind_some]
        rw [impl_fold_eq _ (by rw [size_join]; omega), impl_fold_eq b (by omega)]
        simp only [Option.bind_some, toL, Option.some.injEq]
        rw [← jy]
        by_cases hf : (x.drop (x.length - y.length)).map foldB = y.map foldB
        · rw [decide_eq_true ⟨by omega, hf⟩, beq_iff_eq, (foldB_join_iff gd gy).2 hf]
        · rw [decide_eq_false (fun h1 => hf h1.2), beq_eq_false_iff_ne]
          intro e
          exact hf ((foldB_join_iff gd gy).1 (L_inj e))

end Go.Proofs.Ytpbmnokmpihnjaa.Pure
