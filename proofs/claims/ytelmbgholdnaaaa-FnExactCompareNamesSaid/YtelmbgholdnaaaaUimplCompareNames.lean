/- What impl_CompareNames computes, in plain words, for enough rounds. Conditions: bounds on the sizes of its arguments, as each statement says. -/
import Derived.Test.YtelmbgholdnaaaaFx1044
import Derived.Test.YtelmbgholdnaaaaFx1059
import Derived.Test.YtelmbgholdnaaaaBase
import Derived.Test.YtelmbgholdnaaaaBaseName
import Derived.Test.YtelmbgholdnaaaaUimplfold
import Derived.Test.YtelmbgholdnaaaaUimpllabelsOf
namespace Go.Proofs.Ytelmbgholdnaaaa.Pure
open Go.RowKit Go.Proofs.Ytelmbgholdnaaaa.F Go.Proofs.Ytelmbgholdnaaaa.Base Go.Proofs.YtelmbgholdnaaaaW.PrintWords Go.Proofs.YtelmbgholdnaaaaW.PrintLast Go.Proofs.YtelmbgholdnaaaaW.PrintMore
set_option linter.unusedVariables false
set_option linter.unusedSimpArgs false
-- base: BaseName
theorem impl_CompareNames_l0 (x y : List ByteArray) (hx : (joinL x).length ≤ 1000) (hy : (joinL y).length ≤ 1000) : ∀ (d k i : Nat), i ≤ x.length → i ≤ y.length → i + d = x.length → 2 * d + 1100 < k → impl_CompareNames.l0 k x y ((i : Int) + 1) = some (cmpR (x.reverse.drop i) (y.reverse.drop i)) := by
  have hlx := joinL_len_ge x
  have hly := joinL_len_ge y
  have tail : ∀ (k i : Nat), i ≤ x.length → i ≤ y.length → (i = x.length ∨ i = y.length) → impl_CompareNames.j2 (k + 1) x y ((i : Int) + 1) false = some (cmpR (x.reverse.drop i) (y.reverse.drop i)) := by
    intro k i h1 h2 h3
    rw [impl_CompareNames.j2, if_neg (by simp)]
    by_cases hlt : x.length < y.length
    · have e1 : x.reverse.drop i = [] := List.drop_of_length_le (by simp; omega)
      rw [if_pos (by omega), e1, rev_drop y i (by omega)]
      rfl
    · rw [if_neg (by omega)]
      by_cases hgt : x.length > y.length
      · have e1 : y.reverse.drop i = [] := List.drop_of_length_le (by simp; omega)
        rw [if_pos (by omega), e1, rev_drop x i (by omega)]
        rfl
      · have e1 : x.reverse.drop i = [] := List.drop_of_length_le (by simp; omega)
        have e2 : y.reverse.drop i = [] := List.drop_of_length_le (by simp; omega)
        rw [if_neg (by omega), e1, e2]
        rfl
  intro d
  induction d with
  | zero =>
    intro k i h1 h2 hi hk
    obtain ⟨k, rfl⟩ : ∃ m, k = m + 2 := ⟨k - 2, by omega⟩
    rw [impl_CompareNames.l0, if_neg (by omega)]
    exact tail k i h1 h2 (.inl (by omega))
  | succ d ih =>
    intro k i h1 h2 hi hk
    obtain ⟨k, rfl⟩ : ∃ m, k = m + 2 := ⟨k - 2, by omega⟩
    rw [impl_CompareNames.l0, if_pos (by omega)]
    by_cases hlt : i < y.length
    · rw [decide_eq_true (by omega), impl_CompareNames.j2, if_pos rfl]
      have ex : (x.length : Int) - ((i : Int) + 1) = ((x.length - (i + 1) : Nat) : Int) := by omega
      have ey : (y.length : Int) - ((i : Int) + 1) = ((y.length - (i + 1) : Nat) : Int) := by omega
      have hrx : rdOf ByteArray.empty x ((x.length - (i + 1) : Nat) : Int) = x.getD (x.length - (i + 1)) ByteArray.empty := by simp [rdOf]
      have hry : rdOf ByteArray.empty y ((y.length - (i + 1) : Nat) : Int) = y.getD (y.length - (i + 1)) ByteArray.empty := by simp [rdOf]
      have hmx : x.getD (x.length - (i + 1)) ByteArray.empty ∈ x := by rw [List.getD_eq_getElem?_getD, List.getElem?_eq_getElem (by omega)]; exact List.getElem_mem _
      have hmy : y.getD (y.length - (i + 1)) ByteArray.empty ∈ y := by rw [List.getD_eq_getElem?_getD, List.getElem?_eq_getElem (by omega)]; exact List.getElem_mem _
      have hsx := mem_len_le hmx
      have hsy := mem_len_le hmy
      rw [w64 (x := (x.length : Int) - ((i : Int) + 1)) (by omega) (by omega), w64 (x := (y.length : Int) - ((i : Int) + 1)) (by omega) (by omega), w64 (x := (i : Int) + 1 + 1) (by omega) (by omega), ex, ey, hrx, hry, if_pos (by omega), if_pos (by omega)]
      rw [rev_drop x i (by omega), rev_drop y i hlt, cmpR]
      generalize x.getD (x.length - (i + 1)) ByteArray.empty = s at *
      generalize y.getD (y.length - (i + 1)) ByteArray.empty = t at *
      rw [impl_fold_eq s (by omega), impl_fold_eq t (by omega)]
      simp only [Option.bind_some]
      rw [if_pos (by omega), if_pos (by omega)]
      simp only [Option.bind_some, strings_Compare.f]
      have hih := ih k (i + 1) (by omega) (by omega) (by omega) (by omega)
      rw [show (((i + 1 : Nat) : Int) + 1) = (i : Int) + 1 + 1 by omega] at hih
      by_cases hc : Lib.compareBytes (L (foldB s)) (L (foldB t)) = 0
      · rw [if_pos hc, show Lib.compareBytes (foldB s).data.toList (foldB t).data.toList = 0 from hc, if_pos rfl, hih]
      · rw [if_neg hc, if_neg (show ¬ Lib.compareBytes (foldB s).data.toList (foldB t).data.toList = 0 from hc)]
        rfl
    · rw [decide_eq_false (by omega)]
      exact tail k i h1 h2 (.inr (by omega))
theorem impl_CompareNames_eq (a b : ByteArray) (k : Nat) (hk : 10000 ≤ k) : impl_CompareNames.f k a b = some (cmpN a b) := by
  obtain ⟨k, rfl⟩ : ∃ m, k = m + 1 := ⟨k - 1, by omega⟩
  unfold impl_CompareNames.f cmpN
  cases ha : names (L a) with
  | none =>
    rw [impl_labelsOf_none ha _ (by omega)]
    cases hb : names (L b) with
    | none => rw [impl_labelsOf_none hb _ (by omega)]; simp [impl_CompareNames.j0]
    | some y => rw [impl_labelsOf_some hb _ (by omega)]; simp [impl_CompareNames.j0]
  | some x =>
    cases hb : names (L b) with
    | none => rw [impl_labelsOf_some ha _ (by omega), impl_labelsOf_none hb _ (by omega)]; simp [impl_CompareNames.j0]
    | some y =>
      obtain ⟨h1, h2, h3⟩ := names_join ha
      obtain ⟨g1, g2, g3⟩ := names_join hb
      have hl : (joinL x).length + 1 ≤ 255 := by rw [h1] at h3; simpa using h3
      have gl : (joinL y).length + 1 ≤ 255 := by rw [g1] at g3; simpa using g3
      have hll := joinL_len_ge x
      have hl0 := impl_CompareNames_l0 x y (by omega) (by omega) x.length k 0 (by omega) (by omega) (by omega) (by omega)
      simp only [List.drop_zero] at hl0
      rw [impl_labelsOf_some ha _ (by omega), impl_labelsOf_some hb _ (by omega)]
      simp only [Option.bind_some, if_true, List.nil_append, impl_CompareNames.j0, Bool.not_true, Bool.false_eq_true, if_false]
      exact hl0

end Go.Proofs.Ytelmbgholdnaaaa.Pure
