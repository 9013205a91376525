/- Data of records, in plain words: a name at the beginning of bytes. -/
import Derived.Test.YtbaajohjglhpfaaDoorBase
namespace Go.Proofs.YtbaajohjglhpfaaDoor.Base
open Go.RowKit Go.Proofs.YtbaajohjglhpfaaDoorW.PrintWords Go.Proofs.YtbaajohjglhpfaaDoorW.PrintLast
/-- How many bytes the name has with which the bytes begin, found from a position on; 0: none. -/
def nmP (x : List UInt8) : Nat → Nat → Nat
  | 0, _ => 0
  | d + 1, p => match x.drop p with
    | [] => 0
    | c :: _ => if c.toNat = 0 then (if 255 < p + 1 then 0 else p + 1) else if 63 < c.toNat then 0 else nmP x d (p + 1 + c.toNat)
theorem drop_at {x : List UInt8} {p : Nat} (h : p < x.length) : x.drop p = x[p] :: x.drop (p + 1) := List.drop_eq_getElem_cons h
theorem bt_get {x : ByteArray} {p : Nat} (h : p < (L x).length) : bt x (p : Int) = (((L x)[p]).toNat : Int) := by
  rw [bt_L, Int.toNat_natCast, List.getD_eq_getElem?_getD, List.getElem?_eq_getElem h]
  rfl
theorem nmP_big (x : List UInt8) : ∀ (d p : Nat), 255 ≤ p → nmP x d p = 0 := by
  intro d
  induction d with
  | zero => intro p _; rfl
  | succ d ih =>
    intro p hp
    rw [nmP]
    split
    · rfl
    · split
      · rw [if_pos (by omega)]
      · split
        · rfl
        · exact ih _ (by omega)
theorem nmP_le (x : List UInt8) : ∀ (d p : Nat), nmP x d p ≤ x.length ∧ nmP x d p ≤ 255 := by
  intro d
  induction d with
  | zero => intro p; exact ⟨Nat.zero_le _, Nat.zero_le _⟩
  | succ d ih =>
    intro p
    rw [nmP]
    split
    · exact ⟨Nat.zero_le _, Nat.zero_le _⟩
    · rename_i c r h
      split
      · split
        · exact ⟨Nat.zero_le _, Nat.zero_le _⟩
        · refine ⟨?_, by omega⟩
          have : (x.drop p).length ≥ 1 := by rw [h]; simp
          rw [List.length_drop] at this
          omega
      · split
        · exact ⟨Nat.zero_le _, Nat.zero_le _⟩
        · exact ih _
/-- The name's length at the beginning. -/
def nm (x : List UInt8) : Nat := nmP x (x.length + 1) 0
/-- The short text's length at the beginning; 0: none. -/
def tx : List UInt8 → Nat
  | [] => 0
  | c :: r => if r.length < c.toNat then 0 else c.toNat + 1
theorem toList_nil (x : ByteArray) : (x.toList = []) ↔ L x = [] := by rw [toL]
end Go.Proofs.YtbaajohjglhpfaaDoor.Base
