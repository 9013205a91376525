/- What laws_toByteS computes, in plain words, for enough rounds. Conditions: bounds on the sizes of its arguments, as each statement says. -/
import Derived.Test.YtlmapgfmfamgcaaFx1006
import Derived.Test.YtlmapgfmfamgcaaBase
namespace Go.Proofs.Ytlmapgfmfamgcaa.Pure
open Go.RowKit Go.Proofs.Ytlmapgfmfamgcaa.F Go.Proofs.Ytlmapgfmfamgcaa.Base Go.Proofs.YtlmapgfmfamgcaaW.PrintWords Go.Proofs.YtlmapgfmfamgcaaW.PrintLast Go.Proofs.YtlmapgfmfamgcaaW.PrintMore
set_option linter.unusedVariables false
set_option linter.unusedSimpArgs false
theorem laws_toByteS_l0 (l : List Int) (hl : l.length ≤ 1000000000) : ∀ (d k i : Nat), i + d = l.length → d < k → laws_toByteS.l0 k l (l.take i ++ List.replicate d 0) (i : Int) = some l := by
  intro d
  induction d with
  | zero =>
    intro k i hi hk
    obtain ⟨k, rfl⟩ : ∃ m, k = m + 1 := ⟨k - 1, by omega⟩
    rw [laws_toByteS.l0, if_neg (by omega)]
    simp only [List.replicate_zero, List.append_nil]
    rw [List.take_of_length_le (by omega)]
  | succ d ih =>
    intro k i hi hk
    obtain ⟨k, rfl⟩ : ∃ m, k = m + 1 := ⟨k - 1, by omega⟩
    have hi' : i < l.length := by omega
    have hel : rd l (i : Int) = l[i] := by simp [rd, List.getD_eq_getElem?_getD, hi']
    rw [laws_toByteS.l0, if_pos (by omega), if_pos (by omega), if_pos (by simp; omega), w64 (by omega) (by omega), hel]
    have e : (l.take i ++ List.replicate (d + 1) (0 : Int)).set (i : Int).toNat l[i] = l.take (i + 1) ++ List.replicate d 0 := by
      rw [Int.toNat_natCast, List.set_append_right _ _ (by simp; omega), List.length_take, Nat.min_eq_left (by omega), Nat.sub_self, List.replicate_succ, List.set_cons_zero, List.take_succ_eq_append_getElem hi', List.append_assoc]
      rfl
    rw [e]
    exact ih k (i + 1) (by omega) (by omega)
theorem laws_toByteS_eq (l : List Int) (hl : l.length ≤ 1000000000) (k : Nat) (hk : l.length < k) : laws_toByteS.f k l = some l := by
  unfold laws_toByteS.f
  rw [if_pos (by omega), if_pos (by omega), Int.toNat_natCast]
  have := laws_toByteS_l0 l hl l.length k 0 (by omega) hk
  simpa using this

end Go.Proofs.Ytlmapgfmfamgcaa.Pure
