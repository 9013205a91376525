/- What impl_MakeName computes, in plain words, for enough rounds. Conditions: bounds on the sizes of its arguments, as each statement says. -/
import Derived.Test.YtelmbgholdnaaaaFx1042
import Derived.Test.YtelmbgholdnaaaaBase
import Derived.Test.YtelmbgholdnaaaaBaseName
import Derived.Test.YtelmbgholdnaaaaUimpljoined
namespace Go.Proofs.Ytelmbgholdnaaaa.Pure
open Go.RowKit Go.Proofs.Ytelmbgholdnaaaa.F Go.Proofs.Ytelmbgholdnaaaa.Base Go.Proofs.YtelmbgholdnaaaaW.PrintWords Go.Proofs.YtelmbgholdnaaaaW.PrintLast Go.Proofs.YtelmbgholdnaaaaW.PrintMore
set_option linter.unusedVariables false
set_option linter.unusedSimpArgs false
-- base: BaseName
theorem joinL_bound2 : ∀ (l : List ByteArray), (∀ s ∈ l, s.size ≤ 63) → (joinL l).length ≤ 64 * l.length := by
  intro l
  induction l with
  | nil => intro _; simp [joinL]
  | cons s t ih =>
    intro h
    have h1 := h s (by simp)
    have h2 := ih fun x hx => h x (by simp [hx])
    rw [joinL_cons]
    have := size_L s
    simp only [List.length_cons, List.length_append]
    omega
theorem impl_MakeName_l0 (l : List ByteArray) (hl : l.length ≤ 127) (hz : ∀ s ∈ l, s.size ≤ 1048576) : ∀ (d k i : Nat), i + d = l.length → d < k → (∀ s ∈ l.take i, 1 ≤ s.size ∧ s.size ≤ 63) → impl_MakeName.l0 k l (((joinL (l.take i)).length : Int) + 1) l (l.length : Int) (i : Int) = some (mkN l) := by
  intro d
  induction d with
  | zero =>
    intro k i hi hk hg
    obtain ⟨k, rfl⟩ : ∃ m, k = m + 1 := ⟨k - 1, by omega⟩
    rw [List.take_of_length_le (by omega)] at hg ⊢
    have hb := joinL_bound2 l (mem_size hg)
    rw [impl_MakeName.l0, if_neg (by omega)]
    have hne : ¬ ∃ s ∈ l, s.size < 1 ∨ 63 < s.size := by
      rintro ⟨s, hs, h⟩
      have := hg s hs
      omega
    unfold mkN
    rw [if_neg (show ¬ 127 < l.length by omega), if_neg hne]
    by_cases h : 255 < (joinL l).length + 1
    · rw [if_pos (by omega), if_pos h]
    · rw [if_neg (by omega), if_neg h, impl_joined_eq l (by omega)]
      rfl
  | succ d ih =>
    intro k i hi hk hg
    obtain ⟨k, rfl⟩ : ∃ m, k = m + 1 := ⟨k - 1, by omega⟩
    have hi' : i < l.length := by omega
    have hel : rdOf ByteArray.empty l (i : Int) = l[i] := by simp [rdOf, List.getD_eq_getElem?_getD, hi']
    have hb := joinL_bound2 (l.take i) (mem_size hg)
    rw [List.length_take] at hb
    rw [impl_MakeName.l0, if_pos (by omega), if_pos (by omega), if_pos (by omega), hel]
    have hbad : (l[i].size < 1 ∨ 63 < l[i].size) → mkN l = (⟨#[]⟩, 2) := by
      intro h
      unfold mkN
      rw [if_neg (by omega), if_pos ⟨l[i], List.getElem_mem _, h⟩]
    by_cases h1 : (l[i].size : Int) < 1
    · rw [if_pos h1, hbad (.inl (by omega))]
    · rw [if_neg h1]
      by_cases h2 : (l[i].size : Int) > 63
      · rw [if_pos h2, hbad (.inr (by omega))]
      · rw [if_neg h2, w64 (x := 1 + (l[i].size : Int)) (by omega) (by omega), w64 (x := (i : Int) + 1) (by omega) (by omega), w64 (by omega) (by omega)]
        have hj : (joinL (l.take (i + 1))).length = (joinL (l.take i)).length + 1 + l[i].size := by
          rw [List.take_succ_eq_append_getElem hi', joinL_append, List.length_append, joinL_cons]
          simp [joinL, ← size_L]
          omega
        have := ih k (i + 1) (by omega) (by omega) (by
          rw [List.take_succ_eq_append_getElem hi']
          intro s hs
          rcases List.mem_append.1 hs with h | h
          · exact hg s h
          · obtain rfl := List.mem_singleton.1 h
            omega)
        rw [hj] at this
        rw [show ((joinL (l.take i)).length : Int) + 1 + (1 + (l[i].size : Int)) = (((joinL (l.take i)).length + 1 + l[i].size : Nat) : Int) + 1 by omega]
        exact this
theorem impl_MakeName_eq (l : List ByteArray) (hz : ∀ s ∈ l, s.size ≤ 1048576) (k : Nat) (hk : 200 ≤ k) : impl_MakeName.f k l = some (mkN l) := by
  unfold impl_MakeName.f
  by_cases h : 127 < l.length
  · rw [if_pos (by omega)]
    unfold mkN
    rw [if_pos h]
  · rw [if_neg (by omega)]
    have := impl_MakeName_l0 l (by omega) hz l.length k 0 (by omega) (by omega) (by simp)
    simpa [joinL] using this

end Go.Proofs.Ytelmbgholdnaaaa.Pure
