/- The pure statement of FnExactSameName: what the program computes is what the law asks, at every argument. No condition beyond the statement's own. -/
import Derived.Test.YtelmbgholdnaaaaFx1009
import Derived.Test.YtelmbgholdnaaaaBase
import Derived.Test.YtelmbgholdnaaaaUimplSameName
import Derived.Test.YtelmbgholdnaaaaUspecSameName
namespace Go.Proofs.Ytelmbgholdnaaaa.Pure
open Go.RowKit Go.Proofs.Ytelmbgholdnaaaa.F Go.Proofs.Ytelmbgholdnaaaa.Base Go.Proofs.YtelmbgholdnaaaaW.PrintWords Go.Proofs.YtelmbgholdnaaaaW.PrintLast Go.Proofs.YtelmbgholdnaaaaW.PrintMore
set_option linter.unusedVariables false
set_option linter.unusedSimpArgs false
theorem FnExactSameName : laws_FnExactSameName.Pure := by
  intro a b _ _
  refine ⟨1100000, ?_⟩
  unfold laws_FnExactSameName.f
  by_cases h : (a.size : Int) > 1048576
  · rw [if_pos h]
  · by_cases h2 : (b.size : Int) > 1048576
    · rw [if_neg h, if_pos h2]
    · rw [if_neg h, if_neg h2, spec_SameName_eq a b _ (Nat.le_refl _), impl_SameName_eq a b _ (by omega)]
      simp

end Go.Proofs.Ytelmbgholdnaaaa.Pure
