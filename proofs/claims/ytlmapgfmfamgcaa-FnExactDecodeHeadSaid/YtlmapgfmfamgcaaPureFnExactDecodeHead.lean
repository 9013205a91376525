/- The pure statement of FnExactDecodeHead: what the program computes is what the law asks, at every argument. No condition beyond the statement's own. -/
import Derived.Test.YtlmapgfmfamgcaaFx1003
import Derived.Test.YtlmapgfmfamgcaaFx1009
import Derived.Test.YtlmapgfmfamgcaaBase
import Derived.Test.YtlmapgfmfamgcaaBaseDec
import Derived.Test.YtlmapgfmfamgcaaUlawseqByteS
import Derived.Test.YtlmapgfmfamgcaaUlawseqHead
import Derived.Test.YtlmapgfmfamgcaaUlawstoByteS
import Derived.Test.YtlmapgfmfamgcaaUspecDecodeHead
namespace Go.Proofs.Ytlmapgfmfamgcaa.Pure
open Go.RowKit Go.Proofs.Ytlmapgfmfamgcaa.F Go.Proofs.Ytlmapgfmfamgcaa.Base Go.Proofs.YtlmapgfmfamgcaaW.PrintWords Go.Proofs.YtlmapgfmfamgcaaW.PrintLast Go.Proofs.YtlmapgfmfamgcaaW.PrintMore
set_option linter.unusedVariables false
set_option linter.unusedSimpArgs false
-- base: BaseDec
theorem FnExactDecodeHead : laws_FnExactDecodeHead.Pure := by
  intro l _ _ _
  have key : ∀ k, 1050001 ≤ k → laws_FnExactDecodeHead.f (k + 1) l = some true := by
    intro k hk
    unfold laws_FnExactDecodeHead.f
    by_cases h : (l.length : Int) > 1048576
    · rw [if_pos h]
    · obtain ⟨⟨r0, r1, r2, r3, r4, r5, r6, r7, r8, r9, r10, r11, r12, r13, r14, r15⟩, e1, e2⟩ := DecodeHead_both l
      rw [if_neg h, laws_toByteS_eq l (by omega) (k + 1) (by omega), Option.bind_some, e2 (k + 1) (by omega), Option.bind_some, Option.bind_some, e1, Option.bind_some]
      simp only [laws_eqHead_refl, Option.bind_some, if_true, laws_eqInt64A4.f, decide_true, bne_self_eq_false, laws_FnExactDecodeHead.j0, Bool.false_eq_true, if_false]
      rw [laws_toByteS_eq l (by omega) k (by omega), Option.bind_some, laws_eqByteS_refl l (by omega) k (by omega), Option.bind_some, if_pos rfl]
  exact ⟨_, key 1050001 (Nat.le_refl _)⟩

end Go.Proofs.Ytlmapgfmfamgcaa.Pure
