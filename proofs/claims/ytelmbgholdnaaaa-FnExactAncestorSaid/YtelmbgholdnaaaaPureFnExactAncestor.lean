/- The pure statement of FnExactAncestor: what the program computes is what the law asks, at every argument. No condition beyond the statement's own. -/
import Derived.Test.YtelmbgholdnaaaaFx1012
import Derived.Test.YtelmbgholdnaaaaBase
import Derived.Test.YtelmbgholdnaaaaUimplAncestor
import Derived.Test.YtelmbgholdnaaaaUspecAncestor
namespace Go.Proofs.Ytelmbgholdnaaaa.Pure
open Go.RowKit Go.Proofs.Ytelmbgholdnaaaa.F Go.Proofs.Ytelmbgholdnaaaa.Base Go.Proofs.YtelmbgholdnaaaaW.PrintWords Go.Proofs.YtelmbgholdnaaaaW.PrintLast Go.Proofs.YtelmbgholdnaaaaW.PrintMore
set_option linter.unusedVariables false
set_option linter.unusedSimpArgs false
theorem FnExactAncestor : laws_FnExactAncestor.Pure := by
  intro a n _ _
  refine ⟨400, ?_⟩
  unfold laws_FnExactAncestor.f
  by_cases h : (a.size : Int) > 1048576
  · rw [if_pos h]
  · rw [if_neg h, spec_Ancestor_eq a n _ (Nat.le_refl _), impl_Ancestor_eq a n _ (Nat.le_refl _)]
    simp

end Go.Proofs.Ytelmbgholdnaaaa.Pure
