/- Plain facts on byte strings, wrap-round numbers and the labels of names, which the pure statements use; no program in sight. -/
import Derived.Test.YtbaajohjglhpfaaDoorWWords
import Derived.Test.YtbaajohjglhpfaaDoorWMore
import Derived.Lib.Bytes
namespace Go.Proofs.YtbaajohjglhpfaaDoor.Base
open Go.RowKit Go.Proofs.YtbaajohjglhpfaaDoorW.PrintWords Go.Proofs.YtbaajohjglhpfaaDoorW.PrintMore

theorem w64 {x : Int} (h0 : -9223372036854775808 ≤ x) (h1 : x ≤ 9223372036854775807) : wrap64 x = x := by
  unfold wrap64
  omega

def L (s : ByteArray) : List UInt8 := s.data.toList
def B (l : List UInt8) : ByteArray := ⟨l.toArray⟩
theorem L_B (l : List UInt8) : L (B l) = l := by simp [L, B]
theorem B_L (s : ByteArray) : B (L s) = s := by simp [L, B]
theorem L_inj {a b : ByteArray} (h : L a = L b) : a = b := by rw [← B_L a, ← B_L b, h]
theorem L_iff {a b : ByteArray} : L a = L b ↔ a = b := ⟨L_inj, fun h => by rw [h]⟩
theorem size_L (s : ByteArray) : s.size = (L s).length := by simp [L]
theorem toL (s : ByteArray) : s.toList = L s := Lib.toList_data s
theorem L_extract (s : ByteArray) (i j : Nat) : L (s.extract i j) = ((L s).drop i).take (j - i) := by
  simp [L, ByteArray.data_extract]
theorem L_append (a b : ByteArray) : L (a ++ b) = L a ++ L b := by
  simp [L, ByteArray.data_append]
theorem bt_L (s : ByteArray) (i : Int) : bt s i = (((L s).getD i.toNat 0).toNat : Int) := by
  unfold bt
  split
  · rename_i h
    have h' : i.toNat < (L s).length := by rw [← size_L]; exact h
    rw [List.getD_eq_getElem?_getD, List.getElem?_eq_getElem h']
    rfl
  · rename_i h
    have h' : (L s).length ≤ i.toNat := by rw [← size_L]; omega
    rw [List.getD_eq_getElem?_getD, List.getElem?_eq_none h']
    rfl
theorem bt_mid {x : ByteArray} {p : List UInt8} {c : UInt8} {r : List UInt8} (h : L x = p ++ c :: r) {i : Int} (hi : i = (p.length : Int)) : bt x i = (c.toNat : Int) := by
  rw [bt_L, h, hi]
  simp [List.getD_eq_getElem?_getD]
theorem bt_cons {x : ByteArray} {c : UInt8} {r : List UInt8} (h : L x = c :: r) : bt x 0 = (c.toNat : Int) := bt_mid (p := []) h rfl
theorem L_strOfNums (xs : List Int) : L (strOfNums xs) = xs.map fun n => UInt8.ofNat n.toNat := by simp [L, strOfNums]
theorem byte_le (c : UInt8) : (c.toNat : Int) ≤ 255 := by have := c.toNat_lt; omega
theorem byte_id (c : UInt8) : UInt8.ofNat ((c.toNat : Int)).toNat = c := by simp

theorem drop_len {α : Type} (p t : List α) (k : Nat) : (p ++ t).drop (p.length + k) = t.drop k := by
  rw [List.drop_append, List.drop_eq_nil_of_le (by omega), List.nil_append, Nat.add_sub_cancel_left]
theorem getD_len {α : Type} (p t : List α) (k : Nat) (d : α) : (p ++ t).getD (p.length + k) d = t.getD k d := by
  simp [List.getD_eq_getElem?_getD, List.getElem?_append_right]

/-- The labels of a name's bytes; none: they are no name (but for the limit on the whole). -/
def labs : List UInt8 → Option (List ByteArray)
  | [] => none
  | c :: r => if c.toNat = 0 then (if r = [] then some [] else none) else if 63 < c.toNat then none else if r.length < c.toNat then none else (labs (r.drop c.toNat)).map (B (r.take c.toNat) :: ·)
  termination_by l => l.length
  decreasing_by simp; omega

/-- The labels of a name. -/
def names (l : List UInt8) : Option (List ByteArray) := if l.length < 1 ∨ 255 < l.length then none else labs l

/-- What a cut in labels answers that had come to some. -/
def res (acc : List ByteArray) : Option (List ByteArray) → List ByteArray × Bool
  | none => ([], false)
  | some ls => (acc ++ ls, true)
theorem res_map (acc : List ByteArray) (b : ByteArray) (o : Option (List ByteArray)) : res acc (o.map (b :: ·)) = res (acc ++ [b]) o := by
  cases o <;> simp [res]

/-- What the other cut in labels leaves where it fails. -/
def jk (acc : List ByteArray) : List UInt8 → List ByteArray
  | [] => []
  | c :: r => if c.toNat = 0 then acc else if 63 < c.toNat then [] else if r.length < c.toNat then [] else jk (acc ++ [B (r.take c.toNat)]) (r.drop c.toNat)
  termination_by l => l.length
  decreasing_by simp; omega
def res2 (acc : List ByteArray) (l : List UInt8) : List ByteArray × Bool := match labs l with
  | none => (jk acc l, false)
  | some ls => (acc ++ ls, true)
theorem labs_count : ∀ (n : Nat) (l : List UInt8), l.length ≤ n → ∀ ls, labs l = some ls → ls.length + 1 ≤ l.length := by
  intro n
  induction n with
  | zero =>
    intro l hl ls h
    obtain rfl : l = [] := List.length_eq_zero_iff.1 (by omega)
    simp [labs] at h
  | succ n ih =>
    intro l hl ls h
    cases l with
    | nil => simp [labs] at h
    | cons c r =>
      simp only [List.length_cons] at hl ⊢
      rw [labs] at h
      by_cases h0 : c.toNat = 0
      · rw [if_pos h0] at h
        by_cases hr : r = []
        · rw [if_pos hr] at h
          obtain rfl := Option.some.inj h
          simp
        · rw [if_neg hr] at h
          cases h
      · rw [if_neg h0] at h
        by_cases h63 : 63 < c.toNat
        · rw [if_pos h63] at h
          cases h
        · rw [if_neg h63] at h
          by_cases hl2 : r.length < c.toNat
          · rw [if_pos hl2] at h
            cases h
          · rw [if_neg hl2] at h
            obtain ⟨t, ht, rfl⟩ := Option.map_eq_some_iff.1 h
            have := ih (r.drop c.toNat) (by simp; omega) t ht
            simp at this ⊢
            omega
theorem names_count {l : List UInt8} {ls : List ByteArray} (h : names l = some ls) : ls.length ≤ 254 := by
  unfold names at h
  split at h
  · cases h
  · have := labs_count _ l (Nat.le_refl _) ls h
    omega
end Go.Proofs.YtbaajohjglhpfaaDoor.Base
