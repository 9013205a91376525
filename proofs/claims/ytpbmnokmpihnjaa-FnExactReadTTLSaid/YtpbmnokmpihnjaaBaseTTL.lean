/- Times to live, in plain words: decimal numbers, units, and a text of numbers with units. -/
import Derived.Test.YtpbmnokmpihnjaaBase
namespace Go.Proofs.Ytpbmnokmpihnjaa.Base
open Go.RowKit Go.Proofs.YtpbmnokmpihnjaaW.PrintWords Go.Proofs.YtpbmnokmpihnjaaW.PrintLast
def dig (c : UInt8) : Bool := decide (48 ≤ c.toNat) && decide (c.toNat ≤ 57)
theorem dig_iff (c : UInt8) : dig c = true ↔ 48 ≤ (c.toNat : Int) ∧ (c.toNat : Int) ≤ 57 := by unfold dig; simp; omega
def dec (n : Int) : List UInt8 → Option Int
  | [] => some n
  | c :: r => if dig c then dec (n * 10 + ((c.toNat : Int) - 48)) r else none
def dnum (l : List UInt8) (m : Nat) : Option Int := if l.length < 1 ∨ m < l.length then none else dec 0 l
theorem dec_bound : ∀ (l : List UInt8) (n m : Int) (p : Nat), dec n l = some m → 0 ≤ n → n < 10 ^ p → 0 ≤ m ∧ m < 10 ^ (p + l.length) := by
  intro l
  induction l with
  | nil => intro n m p h h0 h1; cases h; exact ⟨h0, by simpa using h1⟩
  | cons c r ih =>
    intro n m p h h0 h1
    rw [dec] at h
    by_cases hd : dig c
    · rw [if_pos hd] at h
      have hc := (dig_iff c).1 hd
      have := ih _ m (p + 1) h (by omega) (by rw [Int.pow_succ]; omega)
      rw [List.length_cons, show p + (r.length + 1) = p + 1 + r.length from by omega]
      exact this
    · rw [if_neg hd] at h; cases h
theorem dec_all : ∀ (l : List UInt8) (n m : Int), dec n l = some m → ∀ c ∈ l, dig c = true := by
  intro l
  induction l with
  | nil => intro n m _ c hc; cases hc
  | cons c r ih =>
    intro n m h x hx
    rw [dec] at h
    by_cases hd : dig c
    · rw [if_pos hd] at h
      rcases List.mem_cons.1 hx with rfl | hx
      · exact hd
      · exact ih _ _ h x hx
    · rw [if_neg hd] at h; cases h
theorem dnum_bound {l : List UInt8} {m : Nat} {n : Int} (h : dnum l m = some n) (hm : m ≤ 10) : 0 ≤ n ∧ n ≤ 9999999999 := by
  unfold dnum at h
  split at h
  · cases h
  · rename_i hl
    have hb := dec_bound l 0 n 0 h (by decide) (by decide)
    refine ⟨hb.1, ?_⟩
    have h2 := hb.2
    have : (10 : Int) ^ (0 + l.length) ≤ 10000000000 := by
      rcases (by omega : l.length = 0 ∨ l.length = 1 ∨ l.length = 2 ∨ l.length = 3 ∨ l.length = 4 ∨ l.length = 5 ∨ l.length = 6 ∨ l.length = 7 ∨ l.length = 8 ∨ l.length = 9 ∨ l.length = 10) with e | e | e | e | e | e | e | e | e | e | e <;> rw [e] <;> decide
    omega
def unit (c : Nat) : Int := if c = 115 ∨ c = 83 then 1 else if c = 109 ∨ c = 77 then 60 else if c = 104 ∨ c = 72 then 3600 else if c = 100 ∨ c = 68 then 86400 else if c = 119 ∨ c = 87 then 604800 else 0
theorem unit_bound (c : Nat) : 0 ≤ unit c ∧ unit c ≤ 604800 := by unfold unit; repeat' split <;> omega
theorem unit_big (c : Nat) (h : unit c ≠ 0) : 65 ≤ c := by unfold unit at h; repeat' split at h <;> omega
/-- A text of numbers with units: the sum so far, the digits that stand open, whether a unit has been read. -/
def ttl (sum : Int) (pend : List UInt8) (started : Bool) : List UInt8 → Int × Int
  | [] => if pend = [] ∧ started = true then (if sum > 2147483647 then (0, 18) else (sum, 0)) else (0, 18)
  | c :: r => if dig c then ttl sum (pend ++ [c]) started r else match dnum pend 10 with
    | none => (0, 18)
    | some n => if unit c.toNat = 0 then (0, 18) else ttl (sum + n * unit c.toNat) [] true r
theorem ttl_digits : ∀ (l p : List UInt8) (s : Int) (b : Bool), (∀ c ∈ l, dig c = true) → p ++ l ≠ [] → ttl s p b l = (0, 18) := by
  intro l
  induction l with
  | nil => intro p s b _ h; rw [ttl, if_neg (fun e => h (by simp [e.1]))]
  | cons c r ih =>
    intro p s b h _
    rw [ttl, if_pos (h c (by simp))]
    exact ih _ _ _ (fun x hx => h x (by simp [hx])) (by simp)
def ttlAll (x : ByteArray) : Int × Int := if 60 < x.size then (0, 18) else match dnum (L x) 10 with | some n => if n ≤ 2147483647 then (n, 0) else (0, 18) | none => ttl 0 [] false (L x)
end Go.Proofs.Ytpbmnokmpihnjaa.Base
