/- The pure statement of FnExactFoldName: what the program computes is what the law asks, at every argument. No condition beyond the statement's own. -/
import Derived.Test.YtelmbgholdnaaaaFx1010
import Derived.Test.YtelmbgholdnaaaaBase
import Derived.Test.YtelmbgholdnaaaaUimplFoldName
import Derived.Test.YtelmbgholdnaaaaUspecFoldName
namespace Go.Proofs.Ytelmbgholdnaaaa.Pure
open Go.RowKit Go.Proofs.Ytelmbgholdnaaaa.F Go.Proofs.Ytelmbgholdnaaaa.Base Go.Proofs.YtelmbgholdnaaaaW.PrintWords Go.Proofs.YtelmbgholdnaaaaW.PrintLast Go.Proofs.YtelmbgholdnaaaaW.PrintMore
set_option linter.unusedVariables false
set_option linter.unusedSimpArgs false
theorem FnExactFoldName : laws_FnExactFoldName.Pure := by
  intro a _
  refine ⟨1100000, ?_⟩
  unfold laws_FnExactFoldName.f
  by_cases h : (a.size : Int) > 1048576
  · rw [if_pos h]
  · rw [if_neg h, spec_FoldName_eq a _ (Nat.le_refl _), impl_FoldName_eq a _ (by omega)]
    simp

end Go.Proofs.Ytelmbgholdnaaaa.Pure
