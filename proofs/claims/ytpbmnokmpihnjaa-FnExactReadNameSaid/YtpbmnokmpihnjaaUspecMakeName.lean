/- What spec_MakeName computes, in plain words, for enough rounds. Conditions: bounds on the sizes of its arguments, as each statement says. -/
import Derived.Test.YtpbmnokmpihnjaaFx1040
import Derived.Test.YtpbmnokmpihnjaaBase
import Derived.Test.YtpbmnokmpihnjaaBaseName
import Derived.Test.YtpbmnokmpihnjaaUspecl01Join
namespace Go.Proofs.Ytpbmnokmpihnjaa.Pure
open Go.RowKit Go.Proofs.Ytpbmnokmpihnjaa.F Go.Proofs.Ytpbmnokmpihnjaa.Base Go.Proofs.YtpbmnokmpihnjaaW.PrintWords Go.Proofs.YtpbmnokmpihnjaaW.PrintLast Go.Proofs.YtpbmnokmpihnjaaW.PrintMore
set_option linter.unusedVariables false
set_option linter.unusedSimpArgs false
-- base: BaseName
theorem joinL_bound : ∀ (l : List ByteArray), (∀ s ∈ l, s.size ≤ 63) → (joinL l).length ≤ 64 * l.length := by
  intro l
  induction l with
  | nil => intro _; simp [joinL]
  | cons s t ih =>
    intro h
    have h1 := h s (by simp)
    have h2 := ih fun x hx => h x (by simp [hx])
    rw [joinL_cons]
    have := size_L s
    simp only [List.length_cons, List.length_append]
    omega
theorem spec_MakeName_l0 (l : List ByteArray) (hl : l.length ≤ 127) (hz : ∀ s ∈ l, s.size ≤ 1048576) : ∀ (d k i : Nat), i + d = l.length → d < k → (∀ s ∈ l.take i, 1 ≤ s.size ∧ s.size ≤ 63) → spec_MakeName.l0 k l (i : Int) = some (mkN l) := by
  intro d
  induction d with
  | zero =>
    intro k i hi hk hg
    obtain ⟨k, rfl⟩ : ∃ m, k = m + 1 := ⟨k - 1, by omega⟩
    rw [List.take_of_length_le (by omega)] at hg
    have hb := joinL_bound l (mem_size hg)
    rw [spec_MakeName.l0, if_neg (by omega), spec_l01Join_eq l (by omega)]
    simp only [Option.bind_some, size_join]
    have hne : ¬ ∃ s ∈ l, s.size < 1 ∨ 63 < s.size := by
      rintro ⟨s, hs, h⟩
      have := hg s hs
      omega
    unfold mkN
    rw [if_neg (show ¬ 127 < l.length by omega), if_neg hne]
    by_cases h : 255 < (joinL l).length + 1
    · rw [if_pos (by omega), if_pos h]
    · rw [if_neg (by omega), if_neg h]
  | succ d ih =>
    intro k i hi hk hg
    obtain ⟨k, rfl⟩ : ∃ m, k = m + 1 := ⟨k - 1, by omega⟩
    have hi' : i < l.length := by omega
    have hel : rdOf ByteArray.empty l (i : Int) = l[i] := by simp [rdOf, List.getD_eq_getElem?_getD, hi']
    rw [spec_MakeName.l0, if_pos (by omega), if_pos (by omega), hel]
    have hbad : (l[i].size < 1 ∨ 63 < l[i].size) → mkN l = (⟨#[]⟩, 2) := by
      intro h
      unfold mkN
      rw [if_neg (by omega), if_pos ⟨l[i], List.getElem_mem _, h⟩]
    by_cases h1 : (l[i].size : Int) < 1
    · rw [if_pos h1, hbad (.inl (by omega))]
    · rw [if_neg h1]
      by_cases h2 : (l[i].size : Int) > 63
      · rw [if_pos h2, hbad (.inr (by omega))]
      · rw [if_neg h2, w64 (by omega) (by omega)]
        refine ih k (i + 1) (by omega) (by omega) ?_
        rw [List.take_succ_eq_append_getElem hi']
        intro s hs
        rcases List.mem_append.1 hs with h | h
        · exact hg s h
        · obtain rfl := List.mem_singleton.1 h
          omega
theorem spec_MakeName_eq (l : List ByteArray) (hz : ∀ s ∈ l, s.size ≤ 1048576) (k : Nat) (hk : 200 ≤ k) : spec_MakeName.f k l = some (mkN l) := by
  unfold spec_MakeName.f
  by_cases h : 127 < l.length
  · rw [if_pos (by omega)]
    unfold mkN
    rw [if_pos h]
  · rw [if_neg (by omega)]
    exact spec_MakeName_l0 l (by omega) hz l.length k 0 (by omega) (by omega) (by simp)

end Go.Proofs.Ytpbmnokmpihnjaa.Pure
