/- The pure statement of FnExactCompareNames: what the program computes is what the law asks, at every argument. No condition beyond the statement's own. -/
import Derived.Test.YtelmbgholdnaaaaFx1014
import Derived.Test.YtelmbgholdnaaaaBase
import Derived.Test.YtelmbgholdnaaaaUimplCompareNames
import Derived.Test.YtelmbgholdnaaaaUspecCompareNames
namespace Go.Proofs.Ytelmbgholdnaaaa.Pure
open Go.RowKit Go.Proofs.Ytelmbgholdnaaaa.F Go.Proofs.Ytelmbgholdnaaaa.Base Go.Proofs.YtelmbgholdnaaaaW.PrintWords Go.Proofs.YtelmbgholdnaaaaW.PrintLast Go.Proofs.YtelmbgholdnaaaaW.PrintMore
set_option linter.unusedVariables false
set_option linter.unusedSimpArgs false
theorem FnExactCompareNames : laws_FnExactCompareNames.Pure := by
  intro a b _ _
  refine ⟨10000, ?_⟩
  unfold laws_FnExactCompareNames.f
  by_cases h : (a.size : Int) > 1048576
  · rw [if_pos h]
  · by_cases h2 : (b.size : Int) > 1048576
    · rw [if_neg h, if_pos h2]
    · rw [if_neg h, if_neg h2, spec_CompareNames_eq a b _ (Nat.le_refl _), impl_CompareNames_eq a b _ (Nat.le_refl _)]
      simp

end Go.Proofs.Ytelmbgholdnaaaa.Pure
