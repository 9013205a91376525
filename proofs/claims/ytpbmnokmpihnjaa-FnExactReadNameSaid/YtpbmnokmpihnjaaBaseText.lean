/- What a backslash and what stands behind it tell, and a word without its escapes; no program in sight. -/
import Derived.Test.YtpbmnokmpihnjaaBase
namespace Go.Proofs.Ytpbmnokmpihnjaa.Base
open Go.RowKit Go.Proofs.YtpbmnokmpihnjaaW.PrintWords Go.Proofs.YtpbmnokmpihnjaaW.PrintMore

def isDigit (c : UInt8) : Prop := 48 ≤ c.toNat ∧ c.toNat ≤ 57
instance isDigitDec (c : UInt8) : Decidable (isDigit c) := inferInstanceAs (Decidable (48 ≤ c.toNat ∧ c.toNat ≤ 57))
/-- What stands behind a backslash: its byte, and how many bytes it took; none: it is ill. -/
def escV : List UInt8 → Option (Int × Nat)
  | [] => none
  | c :: t => if ¬ isDigit c then some ((c.toNat : Int), 1) else match t with
    | d :: e :: _ => if isDigit d ∧ isDigit e then (if ((c.toNat : Int) - 48) * 100 + ((d.toNat : Int) - 48) * 10 + ((e.toNat : Int) - 48) > 255 then none else some (((c.toNat : Int) - 48) * 100 + ((d.toNat : Int) - 48) * 10 + ((e.toNat : Int) - 48), 3)) else none
    | _ => none
theorem escV_pos {r : List UInt8} {v : Int} {n : Nat} (h : escV r = some (v, n)) : 1 ≤ n ∧ n ≤ r.length ∧ 0 ≤ v ∧ v ≤ 255 := by
  unfold escV at h
  split at h
  · cases h
  · rename_i c t
    have hc := byte_le c
    split at h
    · simp only [Option.some.injEq, Prod.mk.injEq] at h
      obtain ⟨rfl, rfl⟩ := h
      simp; omega
    · rename_i hd
      split at h
      · rename_i d e u
        split at h
        · rename_i hde
          unfold isDigit at hd hde
          split at h
          · cases h
          · simp only [Option.some.injEq, Prod.mk.injEq] at h
            obtain ⟨rfl, rfl⟩ := h
            simp at hd
            simp only [List.length_cons]
            omega
        · cases h
      · cases h
/-- A word without its escapes. -/
def rtext : List UInt8 → Option (List Int)
  | [] => some []
  | c :: r => if c.toNat = 92 then (match escV r with
      | none => none
      | some (v, n) => (rtext (r.drop n)).map (v :: ·)) else (rtext r).map ((c.toNat : Int) :: ·)
  termination_by l => l.length
  decreasing_by all_goals (simp <;> omega)
def rres (acc : List Int) : Option (List Int) → ByteArray × Int
  | none => (⟨#[]⟩, 4)
  | some t => (strOfNums (acc ++ t), 0)
theorem rres_map (acc : List Int) (b : Int) (o : Option (List Int)) : rres acc (o.map (b :: ·)) = rres (acc ++ [b]) o := by
  cases o <;> simp [rres]
end Go.Proofs.Ytpbmnokmpihnjaa.Base
