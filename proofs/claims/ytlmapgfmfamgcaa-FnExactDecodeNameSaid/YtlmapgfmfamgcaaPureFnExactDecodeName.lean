/- The pure statement of FnExactDecodeName: what the program computes is what the law asks, at every argument. No condition beyond the statement's own. -/
import Derived.Test.YtlmapgfmfamgcaaFx1004
import Derived.Test.YtlmapgfmfamgcaaBase
import Derived.Test.YtlmapgfmfamgcaaBaseDec
import Derived.Test.YtlmapgfmfamgcaaUimplDecodeName
import Derived.Test.YtlmapgfmfamgcaaUlawseqByteS
import Derived.Test.YtlmapgfmfamgcaaUlawstoByteS
import Derived.Test.YtlmapgfmfamgcaaUspecDecodeName
namespace Go.Proofs.Ytlmapgfmfamgcaa.Pure
open Go.RowKit Go.Proofs.Ytlmapgfmfamgcaa.F Go.Proofs.Ytlmapgfmfamgcaa.Base Go.Proofs.YtlmapgfmfamgcaaW.PrintWords Go.Proofs.YtlmapgfmfamgcaaW.PrintLast Go.Proofs.YtlmapgfmfamgcaaW.PrintMore
set_option linter.unusedVariables false
set_option linter.unusedSimpArgs false
-- base: BaseDec
theorem FnExactDecodeName : laws_FnExactDecodeName.Pure := by
  intro l p _ _ hw _
  have hb : Bytes l := fun x hx => by
    have := hw x hx
    have h0 : Go.IntKind.u8.min = 0 := by decide
    have h1 : Go.IntKind.u8.max = 255 := by decide
    simp [Go.Lit.wf, h0, h1] at this
    omega
  have key : ∀ k, 1050001 ≤ k → laws_FnExactDecodeName.f (k + 1) l p = some true := by
    intro k hk
    unfold laws_FnExactDecodeName.f
    by_cases h : (l.length : Int) > 1048576
    · rw [if_pos h]
    · rw [if_neg h, laws_toByteS_eq l (by omega) (k + 1) (by omega)]
      simp only [Option.bind_some]
      rw [spec_DecodeName_eq l hb (by omega) p (k + 1) (by omega)]
      simp only [Option.bind_some]
      rw [impl_DecodeName_eq l hb (by omega) p (k + 1) (by omega)]
      simp only [Option.bind_some, if_true, bne_self_eq_false, laws_FnExactDecodeName.j0, Bool.false_eq_true, if_false]
      rw [laws_toByteS_eq l (by omega) k (by omega)]
      simp only [Option.bind_some]
      rw [laws_eqByteS_refl l (by omega) k (by omega)]
      simp
  exact ⟨_, key 1050001 (Nat.le_refl _)⟩

end Go.Proofs.Ytlmapgfmfamgcaa.Pure
