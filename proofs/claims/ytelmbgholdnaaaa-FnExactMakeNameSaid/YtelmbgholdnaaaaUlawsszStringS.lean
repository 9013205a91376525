/- What laws_szStringS computes, in plain words, for enough rounds. Conditions: bounds on the sizes of its arguments, as each statement says. -/
import Derived.Test.YtelmbgholdnaaaaFx1039
import Derived.Test.YtelmbgholdnaaaaBase
namespace Go.Proofs.Ytelmbgholdnaaaa.Pure
open Go.RowKit Go.Proofs.Ytelmbgholdnaaaa.F Go.Proofs.Ytelmbgholdnaaaa.Base Go.Proofs.YtelmbgholdnaaaaW.PrintWords Go.Proofs.YtelmbgholdnaaaaW.PrintLast Go.Proofs.YtelmbgholdnaaaaW.PrintMore
set_option linter.unusedVariables false
set_option linter.unusedSimpArgs false
theorem laws_szStringS_l0 (l : List ByteArray) (hl : l.length ≤ 1000000000) (hs : ∀ s ∈ l, s.size ≤ 9223372036854775807) : ∀ (d k i : Nat) (x : Int), i + d = l.length → d < k → 0 ≤ x → x ≤ 1048576 → ∃ r, laws_szStringS.l0 k l x (i : Int) = some r ∧ (0 ≤ r → ∀ s ∈ l.drop i, s.size ≤ 1048576) := by
  intro d
  induction d with
  | zero =>
    intro k i x hi hk h0 h1
    obtain ⟨k, rfl⟩ : ∃ m, k = m + 1 := ⟨k - 1, by omega⟩
    rw [laws_szStringS.l0, if_neg (by omega), List.drop_of_length_le (by omega)]
    exact ⟨_, rfl, fun _ s h => by cases h⟩
  | succ d ih =>
    intro k i x hi hk h0 h1
    obtain ⟨k, rfl⟩ : ∃ m, k = m + 1 := ⟨k - 1, by omega⟩
    have hi' : i < l.length := by omega
    have hel : rdOf ByteArray.empty l (i : Int) = l[i] := by simp [rdOf, List.getD_eq_getElem?_getD, hi']
    have hsz := hs l[i] (List.getElem_mem _)
    rw [laws_szStringS.l0, if_pos (by omega), if_pos (by omega), hel, w64 (x := x - ((l[i]).size : Int)) (by omega) (by omega), w64 (x := (i : Int) + 1) (by omega) (by omega)]
    by_cases hneg : x - ((l[i]).size : Int) < 0
    · rw [if_pos hneg]
      exact ⟨_, rfl, fun h => absurd h (by omega)⟩
    · rw [if_neg hneg]
      obtain ⟨r, hr, hp⟩ := ih k (i + 1) (x - ((l[i]).size : Int)) (by omega) (by omega) (by omega) (by omega)
      rw [show ((i + 1 : Nat) : Int) = (i : Int) + 1 by omega] at hr
      refine ⟨r, hr, fun h s hm => ?_⟩
      rw [List.drop_eq_getElem_cons hi'] at hm
      rcases List.mem_cons.1 hm with rfl | hm
      · omega
      · exact hp h s hm
theorem laws_szStringS_eq (l : List ByteArray) (hl : l.length ≤ 9223372036854775807) (hs : ∀ s ∈ l, s.size ≤ 9223372036854775807) (k : Nat) (hk : 1048576 < k) : ∃ r, laws_szStringS.f k l 1048576 = some r ∧ (0 ≤ r → l.length ≤ 1048576 ∧ ∀ s ∈ l, s.size ≤ 1048576) := by
  unfold laws_szStringS.f
  rw [w64 (x := 1048576 - (l.length : Int)) (by omega) (by omega)]
  by_cases h : (1048576 : Int) - (l.length : Int) < 0
  · rw [if_pos h]
    exact ⟨_, rfl, fun h => absurd h (by omega)⟩
  · rw [if_neg h]
    obtain ⟨r, hr, hp⟩ := laws_szStringS_l0 l (by omega) hs l.length k 0 (1048576 - (l.length : Int)) (by omega) (by omega) (by omega) (by omega)
    exact ⟨r, hr, fun h0 => ⟨by omega, by simpa using hp h0⟩⟩

end Go.Proofs.Ytelmbgholdnaaaa.Pure
