/- What spec_IsUnder computes, in plain words, for enough rounds. Conditions: bounds on the sizes of its arguments, as each statement says. -/
import Derived.Test.YtpbmnokmpihnjaaFx1012
import Derived.Test.YtpbmnokmpihnjaaBase
import Derived.Test.YtpbmnokmpihnjaaBaseName
import Derived.Test.YtpbmnokmpihnjaaUspecSameName
import Derived.Test.YtpbmnokmpihnjaaUspecl01Join
import Derived.Test.YtpbmnokmpihnjaaUspecl01Split
namespace Go.Proofs.Ytpbmnokmpihnjaa.Pure
open Go.RowKit Go.Proofs.Ytpbmnokmpihnjaa.F Go.Proofs.Ytpbmnokmpihnjaa.Base Go.Proofs.YtpbmnokmpihnjaaW.PrintWords Go.Proofs.YtpbmnokmpihnjaaW.PrintLast Go.Proofs.YtpbmnokmpihnjaaW.PrintMore
set_option linter.unusedVariables false
set_option linter.unusedSimpArgs false
-- base: BaseName
theorem spec_IsUnder_eq (a b : ByteArray) (k : Nat) (hk : 1100001 ≤ k) : spec_IsUnder.f k a b = some (underN a b) := by
  obtain ⟨k, rfl⟩ : ∃ m, k = m + 1 := ⟨k - 1, by omega⟩
  unfold spec_IsUnder.f underN
  rw [spec_l01Split_eq a _ (by omega), spec_l01Split_eq b _ (by omega)]
  cases ha : names (L a) with
  | none => simp [res, spec_IsUnder.j0]
  | some x =>
    cases hb : names (L b) with
    | none => simp [res, spec_IsUnder.j0]
    | some y =>
      obtain ⟨gx, jx, lx⟩ := names_good ha
      obtain ⟨gy, jy, ly⟩ := names_good hb
      have hlx := joinL_len_ge x
      have hly := joinL_len_ge y
      simp only [res, Option.bind_some, List.nil_append, if_true, spec_IsUnder.j0]
      unfold underL
      by_cases h : x.length < y.length
      · rw [if_pos (by simp; omega), decide_eq_false (by omega)]
      · have hd := joinL_len_drop x (x.length - y.length)
        have gd := gx.drop (x.length - y.length)
        have hn : names (L (join (x.drop (x.length - y.length)))) = some (x.drop (x.length - y.length)) := by rw [L_join]; exact names_of_join gd (by omega)
        rw [if_neg (by simp; omega), w64 (by omega) (by omega), if_pos (by omega), if_pos (by omega), show ((x.length : Int) - (y.length : Int)).toNat = x.length - y.length by omega, spec_l01Join_eq _ (by omega)]
        simp only [Option.bind_some]
        rw [spec_SameName_eq _ _ k (by omega), sameN_iff hn hb]
        simp only [Option.bind_some, Option.some.injEq, decide_eq_decide]
        exact ⟨fun h1 => ⟨by omega, h1⟩, fun h1 => h1.2⟩

end Go.Proofs.Ytpbmnokmpihnjaa.Pure
