/- The forms of data: how many bytes a letter of the program's forms takes, and one of the reference's forms; and that the two answer alike. -/
import Derived.Test.YtbaajohjglhpfaaDoorBaseData
import Derived.Test.YtbaajohjglhpfaaDoorBaseMap
namespace Go.Proofs.YtbaajohjglhpfaaDoor.Base
open Go.RowKit Go.Proofs.YtbaajohjglhpfaaDoorW.PrintWords Go.Proofs.YtbaajohjglhpfaaDoorW.PrintLast
def alnum (c : UInt8) : Bool := (decide (48 ≤ c.toNat) && decide (c.toNat ≤ 57)) || ((decide (97 ≤ c.toNat) && decide (c.toNat ≤ 122)) || (decide (65 ≤ c.toNat) && decide (c.toNat ≤ 90)))
/-- Short texts, one behind another, to the very end. -/
def exact : Nat → List UInt8 → Bool
  | _, [] => true
  | 0, _ => false
  | d + 1, c :: r => if r.length < c.toNat then false else exact d (r.drop c.toNat)
/-- What a letter of the program's forms takes. -/
def con (c : Nat) (l : List UInt8) : Option Nat :=
  if c = 49 then (if l.length < 1 then none else some 1) else if c = 50 then (if l.length < 2 then none else some 2) else if c = 52 ∨ c = 103 ∨ c = 113 then (if l.length < 4 then none else some 4)
  else if c = 110 then (if nm l = 0 then none else some (nm l)) else if c = 116 then (if tx l = 0 then none else some (tx l))
  else if c = 99 then (if tx l < 2 ∨ 16 < tx l then none else if ((l.take (tx l)).drop 1).all alnum then some (tx l) else none)
  else if c = 84 then (if l = [] then none else if exact l.length l then some l.length else none)
  else if c = 109 then (if (tmap (-1) l).isSome then some l.length else none) else if c = 42 then some l.length else none
def pg : List UInt8 → List UInt8 → Bool
  | [], l => l.isEmpty
  | c :: r, l => match con c.toNat l with | none => false | some n => pg r (l.drop n)
def letters (l : List UInt8) : Prop := ∀ c ∈ l, c.toNat ∈ [49, 50, 52, 103, 113, 110, 116, 99, 84, 109, 42]
theorem tx_le (l : List UInt8) : tx l ≤ l.length := by
  cases l with
  | nil => exact Nat.zero_le _
  | cons c r => rw [tx]; split <;> simp <;> omega
theorem nm_le (l : List UInt8) : nm l ≤ l.length := (nmP_le l _ _).1
end Go.Proofs.YtbaajohjglhpfaaDoor.Base
