/- A name read within a message's bytes; no program in sight. -/
import Derived.Test.YtlmapgfmfamgcaaBaseName
import Derived.Laws.BitsLemmas
namespace Go.Proofs.Ytlmapgfmfamgcaa.Base
open Go Go.RowKit Go.Proofs.YtlmapgfmfamgcaaW.PrintWords Go.Proofs.YtlmapgfmfamgcaaW.PrintMore

def Bytes (b : List Int) : Prop := ∀ x ∈ b, 0 ≤ x ∧ x ≤ 255
theorem Bytes.rd {b : List Int} (h : Bytes b) (i : Int) : 0 ≤ rd b i ∧ rd b i ≤ 255 := by
  unfold Go.Proofs.YtlmapgfmfamgcaaW.PrintWords.rd
  rw [List.getD_eq_getElem?_getD]
  by_cases hi : i.toNat < b.length
  · rw [List.getElem?_eq_getElem hi]
    exact h _ (List.getElem_mem _)
  · rw [List.getElem?_eq_none (by omega)]
    simp
theorem wraps_i64 (n : Int) (h₀ : 0 ≤ n) (h₁ : n < 2 ^ 63) : IntKind.i64.wrap n = n := by rw [IntKind.wrap_i64]; omega
theorem p63 : (2 : Int) ^ 63 = 9223372036854775808 := by decide
theorem i64_and63 (x : Int) (h0 : 0 ≤ x) (h1 : x ≤ 255) : bits .and .i64 x 63 = x % 64 := bits_mask .i64 63 (by decide) wraps_i64 6 (by decide) x h0 (by rw [p63]; omega)
theorem i64_or8 (x y : Int) (hx : 0 ≤ x) (hx2 : x % 256 = 0) (hx1 : x ≤ 100000) (h0 : 0 ≤ y) (h1 : y < 256) : bits .or .i64 x y = x + y := bits_join .i64 63 (by decide) wraps_i64 8 x y hx (by rw [show (2 : Int) ^ 8 = 256 from by decide]; exact hx2) (by rw [p63]; omega) h0 (by rw [show (2 : Int) ^ 8 = 256 from by decide]; exact h1) (by rw [p63]; omega)
theorem off_eq (h l : Int) (h0 : 192 ≤ h) (h1 : h ≤ 255) (l0 : 0 ≤ l) (l1 : l ≤ 255) : bits .or .i64 (wrap64 (bits .and .i64 h 63 * 256)) (wrap64 l) = (h - 192) * 256 + l := by
  rw [i64_and63 h (by omega) (by omega), w64 (x := h % 64 * 256) (by omega) (by omega), w64 (x := l) (by omega) (by omega), i64_or8 _ _ (by omega) (by omega) (by omega) (by omega) (by omega)]
  omega
/-- A label's bytes out of a message. -/
def lab (b : List Int) (at_ n : Int) : ByteArray := strOfNums ((b.take (at_ + 1 + n).toNat).drop (at_ + 1).toNat)
/-- A name within a message's bytes: its bytes, the place behind it, a code. start: where this part of it began; next: the place behind it, if it is known. -/
def dn (b : List Int) : Nat → Int → Int → Int → List ByteArray → ByteArray × Int × Int
  | 0, _, _, _, _ => (⟨#[]⟩, 0, 0)
  | f + 1, p, start, next, ls =>
    if p ≥ (b.length : Int) then (⟨#[]⟩, 0, 8) else
    if rd b p = 0 then (join ls, if next < 0 then p + 1 else next, 0) else
    if rd b p ≥ 192 then (if p + 1 ≥ (b.length : Int) then (⟨#[]⟩, 0, 8) else
      if (rd b p - 192) * 256 + rd b (p + 1) ≥ start then (⟨#[]⟩, 0, 9) else
      dn b f ((rd b p - 192) * 256 + rd b (p + 1)) ((rd b p - 192) * 256 + rd b (p + 1)) (if next < 0 then p + 2 else next) ls) else
    if rd b p > 63 then (⟨#[]⟩, 0, 2) else
    if p + 1 + rd b p > (b.length : Int) then (⟨#[]⟩, 0, 8) else
    if ((joinL ls).length : Int) + 2 + rd b p > 255 then (⟨#[]⟩, 0, 3) else
    dn b f (p + 1 + rd b p) start next (ls ++ [lab b p (rd b p)])
def decN (b : List Int) (p : Int) : ByteArray × Int × Int := if p < 0 ∨ p > (b.length : Int) then (⟨#[]⟩, 0, 32) else dn b (b.length + 300) p p (-1) []
theorem lab_size (b : List Int) (p n : Int) (h0 : 0 ≤ p) (h1 : 0 ≤ n) (h2 : p + 1 + n ≤ (b.length : Int)) : ((lab b p n).size : Int) = n := by
  unfold lab
  rw [size_L, L_strOfNums, List.length_map, List.length_drop, List.length_take]
  omega
theorem joinL_snoc (ls : List ByteArray) (s : ByteArray) : joinL (ls ++ [s]) = joinL ls ++ UInt8.ofNat s.size :: L s := by
  rw [joinL_append]
  simp [joinL]
end Go.Proofs.Ytlmapgfmfamgcaa.Base
