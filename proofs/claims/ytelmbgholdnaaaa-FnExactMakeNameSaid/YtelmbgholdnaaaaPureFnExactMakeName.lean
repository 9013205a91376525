/- The pure statement of FnExactMakeName: what the program computes is what the law asks, at every argument. No condition beyond the statement's own. -/
import Derived.Test.YtelmbgholdnaaaaFx1013
import Derived.Test.YtelmbgholdnaaaaBase
import Derived.Test.YtelmbgholdnaaaaUimplMakeName
import Derived.Test.YtelmbgholdnaaaaUlawseqStringS
import Derived.Test.YtelmbgholdnaaaaUlawsszStringS
import Derived.Test.YtelmbgholdnaaaaUlawstoStringS
import Derived.Test.YtelmbgholdnaaaaUspecMakeName
namespace Go.Proofs.Ytelmbgholdnaaaa.Pure
open Go.RowKit Go.Proofs.Ytelmbgholdnaaaa.F Go.Proofs.Ytelmbgholdnaaaa.Base Go.Proofs.YtelmbgholdnaaaaW.PrintWords Go.Proofs.YtelmbgholdnaaaaW.PrintLast Go.Proofs.YtelmbgholdnaaaaW.PrintMore
set_option linter.unusedVariables false
set_option linter.unusedSimpArgs false
theorem FnExactMakeName (l : List ByteArray) (hl : l.length ≤ maxLen) (hs : ∀ s ∈ l, s.size ≤ maxLen) : ∃ k, laws_FnExactMakeName.f k l = some true := by
  unfold maxLen at hl hs
  have key : ∀ k, 1048600 ≤ k → laws_FnExactMakeName.f (k + 1) l = some true := by
    intro k hk
    unfold laws_FnExactMakeName.f
    obtain ⟨r, hr, hp⟩ := laws_szStringS_eq l hl hs (k + 1) (by omega)
    rw [hr]
    simp only [Option.bind_some]
    by_cases h : r < 0
    · rw [if_pos h]
    · rw [if_neg h]
      obtain ⟨h1, h2⟩ := hp (by omega)
      rw [laws_toStringS_eq l (by omega) (k + 1) (by omega)]
      simp only [Option.bind_some]
      rw [spec_MakeName_eq l h2 (k + 1) (by omega)]
      simp only [Option.bind_some]
      rw [impl_MakeName_eq l h2 (k + 1) (by omega)]
      simp only [Option.bind_some, if_true, bne_self_eq_false, laws_FnExactMakeName.j0, Bool.false_eq_true, if_false]
      rw [laws_toStringS_eq l (by omega) k (by omega)]
      simp only [Option.bind_some]
      rw [laws_eqStringS_refl l (by omega) k (by omega)]
      simp
  exact ⟨_, key 1048600 (Nat.le_refl _)⟩

end Go.Proofs.Ytelmbgholdnaaaa.Pure
