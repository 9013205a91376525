/- The types of a type map, bit by bit; no program in sight. -/
import Derived.Test.YtbaajohjglhpfaaDoorBase
import Derived.Laws.BitsLemmas
namespace Go.Proofs.YtbaajohjglhpfaaDoor.Base
open Go Go.RowKit Go.Proofs.YtbaajohjglhpfaaDoorW.PrintWords Go.Proofs.YtbaajohjglhpfaaDoorW.PrintMore

theorem wrap_u64 (n : Int) : IntKind.u64.wrap n = n % 18446744073709551616 := by simp [IntKind.wrap, IntKind.bits, IntKind.signed]
theorem u8_and1 (x : Int) (h0 : 0 ≤ x) (h1 : x < 256) : bits .and .u8 x 1 = x % 2 := bits_mask .u8 8 (by decide) wraps_u8 1 (by decide) x h0 h1
theorem bit_iff (c : UInt8) (n : Nat) (hn : n ≤ 7) (s : Int) (hs : s = (n : Int)) : (bits .and .u8 (shr .u8 (c.toNat : Int) s) 1 = 1) ↔ (c.toNat / 2 ^ n) % 2 = 1 := by
  subst hs
  have hc := byte_le c
  have e : shr .u8 (c.toNat : Int) (n : Int) = ((c.toNat / 2 ^ n : Nat) : Int) := by
    unfold shr
    rw [Int.toNat_natCast, Nat.min_eq_left (by simp only [IntKind.bits]; omega)]
    simp
  have hle : c.toNat / 2 ^ n ≤ c.toNat := Nat.div_le_self _ _
  rw [e]
  generalize c.toNat / 2 ^ n = q at hle ⊢
  rw [u8_and1 _ (by omega) (by omega)]
  omega

/-- Bit i of a row of bytes, the first byte's highest first. -/
def bitAt (b : List UInt8) (i : Nat) : Bool := decide (((b.getD (i / 8) 0).toNat / 2 ^ (7 - i % 8)) % 2 = 1)
/-- The types of a block: those of n bits from lo on. -/
def blk (w : Nat) (b : List UInt8) : Nat → Nat → List Int
  | _, 0 => []
  | lo, n + 1 => (if bitAt b lo = true then [256 * (w : Int) + (lo : Int)] else []) ++ blk w b (lo + 1) n
theorem blk_length (w : Nat) (b : List UInt8) : ∀ n lo, (blk w b lo n).length ≤ n := by
  intro n
  induction n with
  | zero => intro lo; simp [blk]
  | succ n ih =>
    intro lo
    have := ih (lo + 1)
    unfold blk
    split <;> simp <;> omega
theorem blk_add (w : Nat) (b : List UInt8) : ∀ m n lo, blk w b lo (m + n) = blk w b lo m ++ blk w b (lo + m) n := by
  intro m
  induction m with
  | zero => intro n lo; simp [blk]
  | succ m ih =>
    intro n lo
    rw [show m + 1 + n = (m + n) + 1 from by omega]
    rw [blk, blk, ih n (lo + 1), show lo + 1 + m = lo + (m + 1) from by omega, List.append_assoc]
/-- The types of a map whose blocks are above last; none: it is no map. -/
def tmap (last : Int) : List UInt8 → Option (List Int)
  | [] => some []
  | [_] => none
  | w :: n :: r => if (w.toNat : Int) ≤ last then none else if n.toNat < 1 then none else if 32 < n.toNat then none else if r.length < n.toNat then none else if (r.getD (n.toNat - 1) 0).toNat = 0 then none else (tmap (w.toNat : Int) (r.drop n.toNat)).map (blk w.toNat r 0 (8 * n.toNat) ++ ·)
  termination_by l => l.length
  decreasing_by simp; omega
theorem tmap_length : ∀ (N : Nat) (l : List UInt8) (last : Int) (ts : List Int), l.length ≤ N → tmap last l = some ts → ts.length ≤ 8 * l.length := by
  intro N
  induction N with
  | zero =>
    intro l last ts hl h
    obtain rfl : l = [] := List.length_eq_zero_iff.1 (by omega)
    simp [tmap] at h
    subst h
    simp
  | succ N ih =>
    intro l last ts hl h
    match l, hl, h with
    | [], hl, h => simp [tmap] at h; subst h; simp
    | [_], hl, h => simp [tmap] at h
    | w :: n :: r, hl, h =>
      simp only [List.length_cons] at hl ⊢
      rw [tmap] at h
      repeat' (split at h; · cases h)
      obtain ⟨t, ht, rfl⟩ := Option.map_eq_some_iff.1 h
      have h1 := ih (r.drop n.toNat) _ t (by simp; omega) ht
      have h2 := blk_length w.toNat r (8 * n.toNat) 0
      simp at h1 ⊢
      omega
def mres (acc : List Int) : Option (List Int) → List Int × Int
  | none => ([], 7)
  | some t => (acc ++ t, 0)
theorem mres_map (acc t : List Int) (o : Option (List Int)) : mres acc (o.map (t ++ ·)) = mres (acc ++ t) o := by
  cases o <;> simp [mres]
end Go.Proofs.YtbaajohjglhpfaaDoor.Base
