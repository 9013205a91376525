/- What spec_DecodeHead computes, in plain words, for enough rounds. Conditions: bounds on the sizes of its arguments, as each statement says. -/
import Derived.Test.YtlmapgfmfamgcaaFx1005
import Derived.Test.YtlmapgfmfamgcaaFx1007
import Derived.Test.YtlmapgfmfamgcaaBase
import Derived.Test.YtlmapgfmfamgcaaBaseNum
import Derived.Test.YtlmapgfmfamgcaaUimplbit
import Derived.Test.YtlmapgfmfamgcaaUimplu16
import Derived.Test.YtlmapgfmfamgcaaUspecl02Num
import Derived.Test.YtlmapgfmfamgcaaUspecl04Bit
namespace Go.Proofs.Ytlmapgfmfamgcaa.Pure
open Go.RowKit Go.Proofs.Ytlmapgfmfamgcaa.F Go.Proofs.Ytlmapgfmfamgcaa.Base Go.Proofs.YtlmapgfmfamgcaaW.PrintWords Go.Proofs.YtlmapgfmfamgcaaW.PrintLast Go.Proofs.YtlmapgfmfamgcaaW.PrintMore
set_option linter.unusedVariables false
set_option linter.unusedSimpArgs false
-- base: BaseNum
theorem DecodeHead_both (l : List Int) : ∃ r, impl_DecodeHead.f l = some r ∧ ∀ k, 3 ≤ k → spec_DecodeHead.f k l = some r := by
  by_cases h : l.length < 12
  · refine ⟨_, by unfold impl_DecodeHead.f; rw [if_pos h], fun k _ => by unfold spec_DecodeHead.f; rw [if_pos h]⟩
  · have hl : (L (strOfNums (l.take 12))).length = 12 := by rw [L_strOfNums]; simp; omega
    generalize hs : strOfNums (l.take 12) = s at hl
    obtain ⟨c0, c1, c2, c3, c4, c5, c6, c7, c8, c9, c10, c11, e⟩ := list12 hl
    have ex : ∀ i j, L (s.extract i j) = ([c0, c1, c2, c3, c4, c5, c6, c7, c8, c9, c10, c11].drop i).take (j - i) := fun i j => by rw [L_extract, e]
    refine ⟨?r, ?h1, fun k hk => ?h2⟩
    case h1 =>
      unfold impl_DecodeHead.f
      rw [if_neg h, hs, impl_u16_eq (ex 2 12), Option.bind_some, impl_u16_eq e, Option.bind_some, impl_bit_eq _ _ (by decide), Option.bind_some, impl_bit_eq _ _ (by decide), Option.bind_some, impl_bit_eq _ _ (by decide), Option.bind_some, impl_bit_eq _ _ (by decide), Option.bind_some, impl_bit_eq _ _ (by decide), Option.bind_some, impl_bit_eq _ _ (by decide), Option.bind_some, impl_bit_eq _ _ (by decide), Option.bind_some, impl_bit_eq _ _ (by decide), Option.bind_some, impl_u16_eq (ex 4 12), Option.bind_some, impl_u16_eq (ex 6 12), Option.bind_some, impl_u16_eq (ex 8 12), Option.bind_some, impl_u16_eq (ex 10 12), Option.bind_some]
    case h2 =>
      unfold spec_DecodeHead.f
      rw [if_neg h, hs, spec_l02Num_two (ex 2 4) k hk, Option.bind_some, spec_l02Num_two (ex 0 2) k hk, Option.bind_some, spec_l04Bit_eq _ _ (by decide) (by decide), Option.bind_some, spec_l04Bit_eq _ _ (by decide) (by decide), Option.bind_some, spec_l04Bit_eq _ _ (by decide) (by decide), Option.bind_some, spec_l04Bit_eq _ _ (by decide) (by decide), Option.bind_some, spec_l04Bit_eq _ _ (by decide) (by decide), Option.bind_some, spec_l04Bit_eq _ _ (by decide) (by decide), Option.bind_some, spec_l04Bit_eq _ _ (by decide) (by decide), Option.bind_some, spec_l04Bit_eq _ _ (by decide) (by decide), Option.bind_some, spec_l02Num_two (ex 4 6) k hk, Option.bind_some, spec_l02Num_two (ex 6 8) k hk, Option.bind_some, spec_l02Num_two (ex 8 10) k hk, Option.bind_some, spec_l02Num_two (ex 10 12) k hk, Option.bind_some]

end Go.Proofs.Ytlmapgfmfamgcaa.Pure
