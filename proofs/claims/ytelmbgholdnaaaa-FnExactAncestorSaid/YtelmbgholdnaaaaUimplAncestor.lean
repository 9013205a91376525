/- What impl_Ancestor computes, in plain words, for enough rounds. Conditions: bounds on the sizes of its arguments, as each statement says. -/
import Derived.Test.YtelmbgholdnaaaaFx1038
import Derived.Test.YtelmbgholdnaaaaBase
import Derived.Test.YtelmbgholdnaaaaBaseName
import Derived.Test.YtelmbgholdnaaaaUimpljoined
import Derived.Test.YtelmbgholdnaaaaUimpllabelsOf
namespace Go.Proofs.Ytelmbgholdnaaaa.Pure
open Go.RowKit Go.Proofs.Ytelmbgholdnaaaa.F Go.Proofs.Ytelmbgholdnaaaa.Base Go.Proofs.YtelmbgholdnaaaaW.PrintWords Go.Proofs.YtelmbgholdnaaaaW.PrintLast Go.Proofs.YtelmbgholdnaaaaW.PrintMore
set_option linter.unusedVariables false
set_option linter.unusedSimpArgs false
-- base: BaseName
theorem impl_Ancestor_eq (a : ByteArray) (n : Int) (k : Nat) (hk : 400 ≤ k) : impl_Ancestor.f k a n = some (ancN (names (L a)) n) := by
  unfold impl_Ancestor.f ancN
  cases h : names (L a) with
  | none => rw [impl_labelsOf_none h k hk]; simp
  | some ls =>
    rw [impl_labelsOf_some h k hk]
    obtain ⟨h1, h2, h3⟩ := names_join h
    have hl : (joinL ls).length + 1 ≤ 255 := by rw [h1] at h3; simpa using h3
    have hll := joinL_len_ge ls
    have hd := joinL_len_drop ls n.toNat
    simp only [Option.bind_some, if_true]
    by_cases hn : n < 0
    · rw [if_pos hn, if_pos (.inl hn)]
    · rw [if_neg hn]
      by_cases hn2 : n > (ls.length : Int)
      · rw [if_pos hn2, if_pos (.inr hn2)]
      · rw [if_neg hn2, if_neg (show ¬ (n < 0 ∨ n > (ls.length : Int)) by omega), if_pos (by omega), if_pos (by omega), impl_joined_eq _ (by omega)]
        simp

end Go.Proofs.Ytelmbgholdnaaaa.Pure
