/- What spec_l02Num computes, in plain words, for enough rounds. Conditions: bounds on the sizes of its arguments, as each statement says. -/
import Derived.Test.YtlmapgfmfamgcaaFx1013
import Derived.Test.YtlmapgfmfamgcaaBase
import Derived.Test.YtlmapgfmfamgcaaBaseNum
namespace Go.Proofs.Ytlmapgfmfamgcaa.Pure
open Go.RowKit Go.Proofs.Ytlmapgfmfamgcaa.F Go.Proofs.Ytlmapgfmfamgcaa.Base Go.Proofs.YtlmapgfmfamgcaaW.PrintWords Go.Proofs.YtlmapgfmfamgcaaW.PrintLast Go.Proofs.YtlmapgfmfamgcaaW.PrintMore
set_option linter.unusedVariables false
set_option linter.unusedSimpArgs false
-- base: BaseNum
theorem spec_l02Num_l0 (s : ByteArray) (hs : s.size ≤ 7) : ∀ (l p : List UInt8) (n : Int) (k : Nat), L s = p ++ l → 0 ≤ n → n < 256 ^ p.length → l.length < k → spec_l02Num.l0 k s n (p.length : Int) = some (num n l) := by
  intro l
  induction l with
  | nil =>
    intro p n k h h0 h1 hk
    obtain ⟨k, rfl⟩ : ∃ m, k = m + 1 := ⟨k - 1, by simp at hk; omega⟩
    have hz : s.size = p.length := by rw [size_L, h]; simp
    rw [spec_l02Num.l0, if_neg (by omega)]
    rfl
  | cons c r ih =>
    intro p n k h h0 h1 hk
    obtain ⟨k, rfl⟩ : ∃ m, k = m + 1 := ⟨k - 1, by simp at hk; omega⟩
    have hz : s.size = p.length + (r.length + 1) := by rw [size_L, h]; simp
    have hc := byte_le c
    have hp : (256 : Int) ^ p.length ≤ 281474976710656 := by
      rcases (by omega : p.length = 0 ∨ p.length = 1 ∨ p.length = 2 ∨ p.length = 3 ∨ p.length = 4 ∨ p.length = 5 ∨ p.length = 6) with e | e | e | e | e | e | e <;> rw [e] <;> decide
    rw [spec_l02Num.l0, if_pos (by omega), if_pos (by omega), bt_mid h rfl, w64 (x := n * 256) (by omega) (by omega), w64 (x := (c.toNat : Int)) (by omega) (by omega), w64 (x := n * 256 + (c.toNat : Int)) (by omega) (by omega), w64 (x := (p.length : Int) + 1) (by omega) (by omega)]
    have e : (p.length : Int) + 1 = ((p ++ [c]).length : Int) := by simp
    rw [e]
    exact ih (p ++ [c]) _ k (by rw [h]; simp) (by omega) (by rw [List.length_append, Int.pow_add]; simp only [List.length_cons, List.length_nil]; omega) (by simp at hk; omega)
theorem spec_l02Num_eq (s : ByteArray) (hs : s.size ≤ 7) (k : Nat) (hk : s.size < k) : spec_l02Num.f k s = some (num 0 (L s)) := by
  unfold spec_l02Num.f
  have := spec_l02Num_l0 s hs (L s) [] 0 k rfl (by decide) (by decide) (by rw [← size_L]; exact hk)
  simpa using this
theorem spec_l02Num_two {s : ByteArray} {a b : UInt8} (h : L s = [a, b]) (k : Nat) (hk : 3 ≤ k) : spec_l02Num.f k s = some ((a.toNat : Int) * 256 + b.toNat) := by
  have hs : s.size = 2 := by rw [size_L, h]; rfl
  rw [spec_l02Num_eq s (by omega) k (by omega), h]
  simp [num]

end Go.Proofs.Ytlmapgfmfamgcaa.Pure
