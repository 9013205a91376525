/- Part 6 of 6 of the proof of FnExactDecode: what each Go function on its way computes, that the Go code does just this, and what the law says of it. No condition beyond the statement's own. -/
import Derived.Laws.BitsLemmas
import Derived.Test.YtcamchdenjpmhaaDoorRows
import Derived.Test.YtcamchdenjpmhaaDoorTie
import Derived.Test.YtcamchdenjpmhaaDoorCards
import Derived.OpenVars
import Derived.WalkKit
import Derived.ProofKit
import Derived.OpenShut
import Derived.ShutString
import Derived.ChangeOld
import Derived.Below
import Derived.SizedLaws
import Derived.Test.YtcamchdenjpmhaaDoorMFnExactDecode5
namespace Go.Proofs.YtcamchdenjpmhaaDoor.Pure
open Go.RowKit Go.Proofs.YtcamchdenjpmhaaDoor.F Go.Proofs.YtcamchdenjpmhaaDoor.Base Go.Proofs.YtcamchdenjpmhaaDoorW.PrintWords Go.Proofs.YtcamchdenjpmhaaDoorW.PrintLast Go.Proofs.YtcamchdenjpmhaaDoorW.PrintMore
set_option linter.unusedVariables false
set_option linter.unusedSimpArgs false
theorem laws_markText_l0 : ∀ (d k : Nat) (x : Int) (s : ByteArray), 0 ≤ x → x ≤ 1000000000000000000 → x < 10 ^ d → d < k → s.size + d ≤ 1000 → ∃ r, laws_markText.l0 k x s = some r := by
  intro d
  induction d with
  | zero =>
    intro k x s h0 h18 h1 hk hs
    obtain ⟨k, rfl⟩ : ∃ m, k = m + 1 := ⟨k - 1, by omega⟩
    simp only [laws_markText.l0]
    rw [if_neg (by omega), if_pos (by omega)]
    exact ⟨_, rfl⟩
  | succ d ih =>
    intro k x s h0 h18 h1 hk hs
    obtain ⟨k, rfl⟩ : ∃ m, k = m + 1 := ⟨k - 1, by omega⟩
    simp only [laws_markText.l0, Option.bind_some]
    by_cases hx : x > 0
    · rw [if_pos hx]
      have hsz : (strOfNums [(wrap64 (48 + (Int.tmod x 10))) % 256]).size = 1 := by simp [strOfNums]; rfl
      rw [if_pos (by rw [hsz]; omega), Int.tdiv_eq_ediv_of_nonneg h0, w64 (by omega) (by omega)]
      have h10 : x / 10 < 10 ^ d := by
        have : (10 : Int) ^ (d + 1) = 10 ^ d * 10 := Int.pow_succ 10 d
        omega
      exact ih k (x / 10) _ (by omega) (by omega) h10 (by omega) (by rw [ByteArray.size_append, hsz]; omega)
    · rw [if_neg hx, if_pos (by omega)]
      exact ⟨_, rfl⟩
/-- The mark of a number. -/
def mt (n : Int) : ByteArray := (laws_markText.f 30 n).getD ByteArray.empty
theorem laws_markText_eq (n : Int) (h0 : 0 ≤ n) (h1 : n ≤ 1000000000000000000) (k : Nat) (hk : 30 ≤ k) : laws_markText.f k n = some (mt n) := by
  have h30 : laws_markText.f 30 n = some (mt n) := by
    unfold mt
    have : ∃ r, laws_markText.f 30 n = some r := by
      unfold laws_markText.f
      by_cases h : n ≤ 0
      · rw [if_pos h]; exact ⟨_, rfl⟩
      · rw [if_neg h]; exact laws_markText_l0 20 30 n _ h0 h1 (by omega) (by omega) (by show (0 : Nat) + 20 ≤ 1000; omega)
    obtain ⟨r, hr⟩ := this
    rw [hr]; rfl
  exact at_rounds (laws_markText.mono n) hk h30

end Go.Proofs.YtcamchdenjpmhaaDoor.Pure
namespace Go.Proofs.YtcamchdenjpmhaaDoor.Pure
open Go.RowKit Go.Proofs.YtcamchdenjpmhaaDoor.F Go.Proofs.YtcamchdenjpmhaaDoor.Base Go.Proofs.YtcamchdenjpmhaaDoorW.PrintWords Go.Proofs.YtcamchdenjpmhaaDoorW.PrintLast Go.Proofs.YtcamchdenjpmhaaDoorW.PrintMore
set_option linter.unusedVariables false
set_option linter.unusedSimpArgs false
def qmark (m : Int) : S47 := ⟨mt m, m + 1, m + 1 + 1⟩
def qmarks (n : Nat) (m : Int) : List S47 := (List.range n).map fun (j : Nat) => qmark (m + 3 * (j : Int))
theorem qmarks_length (n : Nat) (m : Int) : (qmarks n m).length = n := by simp [qmarks]
theorem qmarks_succ (n : Nat) (m : Int) : qmarks (n + 1) m = qmarks n m ++ [qmark (m + 3 * (n : Int))] := by simp [qmarks, List.range_succ]
theorem qmarks_cons (n : Nat) (m : Int) : qmarks (n + 1) m = qmark m :: qmarks n (m + 3) := by
  simp only [qmarks, List.range_succ_eq_map, List.map_cons, List.map_map]
  congr 1
  · congr 1; omega
  · apply List.map_congr_left
    intro j _
    show qmark (m + 3 * ((j + 1 : Nat) : Int)) = qmark (m + 3 + 3 * (j : Int))
    congr 1; omega
theorem laws_markQuestionS_l0 (m : Int) (hm0 : 0 ≤ m) : ∀ (d k i : Nat) (r : List S47), r.length = d → d + 31 < k → m + 3 * i + 3 * d ≤ 1000000000000000 → laws_markQuestionS.l0 k (qmarks i m ++ r) (m + 3 * i) i = some (m + 3 * i + 3 * d, qmarks (i + d) m) := by
  intro d
  induction d with
  | zero =>
    intro k i r hr hk hb
    obtain ⟨k, rfl⟩ : ∃ m, k = m + 1 := ⟨k - 1, by omega⟩
    obtain rfl : r = [] := List.length_eq_zero_iff.1 hr
    simp only [laws_markQuestionS.l0, List.append_nil]
    rw [if_neg (by rw [qmarks_length]; omega)]
    simp
  | succ d ih =>
    intro k i r hr hk hb
    obtain ⟨k, rfl⟩ : ∃ m, k = m + 1 := ⟨k - 1, by omega⟩
    obtain ⟨c, r, rfl⟩ : ∃ c t, r = c :: t := by cases r with | nil => simp at hr | cons c t => exact ⟨c, t, rfl⟩
    simp only [List.length_cons] at hr
    have e1 : ∀ x y : S47, (qmarks i m ++ x :: r).set (i : Int).toNat y = qmarks i m ++ y :: r := fun x y => by
      rw [Int.toNat_natCast, List.set_append_right _ _ (by rw [qmarks_length]; exact Nat.le_refl _), qmarks_length, Nat.sub_self, List.set_cons_zero]
    have e2 : ∀ x : S47, rd_T47 (qmarks i m ++ x :: r) (i : Int) = x := fun x => by
      simp [rd_T47, List.getD_eq_getElem?_getD, List.getElem?_append_right, qmarks_length]
    rw [laws_markQuestionS.l0, if_pos (by simp [qmarks_length]; omega), laws_markText_eq _ (by omega) (by omega) k (by omega), Option.bind_some, if_pos (by omega), Option.bind_some]
    simp only [e1, e2]
    rw [w64 (x := m + 3 * (i : Int) + 1) (by omega) (by omega), Option.bind_some]
    simp only [e1, e2]
    rw [w64 (x := m + 3 * (i : Int) + 1 + 1) (by omega) (by omega)]
    rw [w64 (x := m + 3 * (i : Int) + 1 + 1 + 1) (by omega) (by omega), w64 (x := (i : Int) + 1) (by omega) (by omega)]
    have e : qmarks i m ++ (⟨mt (m + 3 * (i : Int)), m + 3 * (i : Int) + 1, m + 3 * (i : Int) + 1 + 1⟩ : S47) :: r = qmarks (i + 1) m ++ r := by
      rw [qmarks_succ, List.append_assoc]
      rfl
    rw [e]
    have := ih k (i + 1) r (by omega) (by omega) (by omega)
    rw [show m + 3 * ((i + 1 : Nat) : Int) = m + 3 * (i : Int) + 1 + 1 + 1 from by omega, show ((i + 1 : Nat) : Int) = (i : Int) + 1 from by omega] at this
    rw [this]
    simp only [Option.some.injEq, Prod.mk.injEq]
    exact ⟨by omega, by rw [show i + 1 + d = i + (d + 1) from by omega]⟩
theorem laws_markQuestionS_eq (l : List S47) (m : Int) (hm0 : 0 ≤ m) (k : Nat) (hk : l.length + 31 < k) (hb : m + 3 * l.length ≤ 1000000000000000) : laws_markQuestionS.f k l m = some (m + 3 * l.length, qmarks l.length m) := by
  have := laws_markQuestionS_l0 m hm0 l.length k 0 l rfl hk (by omega)
  unfold laws_markQuestionS.f
  simpa [qmarks] using this

end Go.Proofs.YtcamchdenjpmhaaDoor.Pure
namespace Go.Proofs.YtcamchdenjpmhaaDoor.Pure
open Go.RowKit Go.Proofs.YtcamchdenjpmhaaDoor.F Go.Proofs.YtcamchdenjpmhaaDoor.Base Go.Proofs.YtcamchdenjpmhaaDoorW.PrintWords Go.Proofs.YtcamchdenjpmhaaDoorW.PrintLast Go.Proofs.YtcamchdenjpmhaaDoorW.PrintMore
set_option linter.unusedVariables false
set_option linter.unusedSimpArgs false
def rrmark (m : Int) : S53 := ⟨mt m, m + 1, m + 1 + 1, m + 1 + 1 + 1, mt (m + 1 + 1 + 1 + 1)⟩
def rrmarks (n : Nat) (m : Int) : List S53 := (List.range n).map fun (j : Nat) => rrmark (m + 5 * (j : Int))
theorem rrmarks_length (n : Nat) (m : Int) : (rrmarks n m).length = n := by simp [rrmarks]
theorem rrmarks_succ (n : Nat) (m : Int) : rrmarks (n + 1) m = rrmarks n m ++ [rrmark (m + 5 * (n : Int))] := by simp [rrmarks, List.range_succ]
theorem laws_markRRS_l0 (m : Int) (hm0 : 0 ≤ m) : ∀ (d k i : Nat) (r : List S53), r.length = d → d + 31 < k → m + 5 * i + 5 * d ≤ 1000000000000000 → laws_markRRS.l0 k (rrmarks i m ++ r) (m + 5 * i) i = some (m + 5 * i + 5 * d, rrmarks (i + d) m) := by
  intro d
  induction d with
  | zero =>
    intro k i r hr hk hb
    obtain ⟨k, rfl⟩ : ∃ m, k = m + 1 := ⟨k - 1, by omega⟩
    obtain rfl : r = [] := List.length_eq_zero_iff.1 hr
    simp only [laws_markRRS.l0, List.append_nil]
    rw [if_neg (by rw [rrmarks_length]; omega)]
    simp
  | succ d ih =>
    intro k i r hr hk hb
    obtain ⟨k, rfl⟩ : ∃ m, k = m + 1 := ⟨k - 1, by omega⟩
    obtain ⟨c, r, rfl⟩ : ∃ c t, r = c :: t := by cases r with | nil => simp at hr | cons c t => exact ⟨c, t, rfl⟩
    simp only [List.length_cons] at hr
    have e1 : ∀ x y : S53, (rrmarks i m ++ x :: r).set (i : Int).toNat y = rrmarks i m ++ y :: r := fun x y => by
      rw [Int.toNat_natCast, List.set_append_right _ _ (by rw [rrmarks_length]; exact Nat.le_refl _), rrmarks_length, Nat.sub_self, List.set_cons_zero]
    have e2 : ∀ x : S53, rd_T53 (rrmarks i m ++ x :: r) (i : Int) = x := fun x => by
      simp [rd_T53, List.getD_eq_getElem?_getD, List.getElem?_append_right, rrmarks_length]
    rw [laws_markRRS.l0, if_pos (by simp [rrmarks_length]; omega), laws_markText_eq _ (by omega) (by omega) k (by omega), Option.bind_some, if_pos (by omega), Option.bind_some]
    simp only [e1, e2]
    rw [w64 (x := m + 5 * (i : Int) + 1) (by omega) (by omega), Option.bind_some]
    simp only [e1, e2]
    rw [w64 (x := m + 5 * (i : Int) + 1 + 1) (by omega) (by omega), Option.bind_some]
    simp only [e1, e2]
    rw [w64 (x := m + 5 * (i : Int) + 1 + 1 + 1) (by omega) (by omega), Option.bind_some]
    simp only [e1, e2]
    rw [w64 (x := m + 5 * (i : Int) + 1 + 1 + 1 + 1) (by omega) (by omega), laws_markText_eq _ (by omega) (by omega) k (by omega), Option.bind_some]
    rw [w64 (x := m + 5 * (i : Int) + 1 + 1 + 1 + 1 + 1) (by omega) (by omega), w64 (x := (i : Int) + 1) (by omega) (by omega)]
    have e : rrmarks i m ++ (⟨mt (m + 5 * (i : Int)), m + 5 * (i : Int) + 1, m + 5 * (i : Int) + 1 + 1, m + 5 * (i : Int) + 1 + 1 + 1, mt (m + 5 * (i : Int) + 1 + 1 + 1 + 1)⟩ : S53) :: r = rrmarks (i + 1) m ++ r := by
      rw [rrmarks_succ, List.append_assoc]
      rfl
    rw [e]
    have := ih k (i + 1) r (by omega) (by omega) (by omega)
    rw [show m + 5 * ((i + 1 : Nat) : Int) = m + 5 * (i : Int) + 1 + 1 + 1 + 1 + 1 from by omega, show ((i + 1 : Nat) : Int) = (i : Int) + 1 from by omega] at this
    rw [this]
    simp only [Option.some.injEq, Prod.mk.injEq]
    exact ⟨by omega, by rw [show i + 1 + d = i + (d + 1) from by omega]⟩
theorem laws_markRRS_eq (l : List S53) (m : Int) (hm0 : 0 ≤ m) (k : Nat) (hk : l.length + 31 < k) (hb : m + 5 * l.length ≤ 1000000000000000) : laws_markRRS.f k l m = some (m + 5 * l.length, rrmarks l.length m) := by
  have := laws_markRRS_l0 m hm0 l.length k 0 l rfl hk (by omega)
  unfold laws_markRRS.f
  simpa [rrmarks] using this
end Go.Proofs.YtcamchdenjpmhaaDoor.Pure
namespace Go.Proofs.YtcamchdenjpmhaaDoor.Pure
open Go.RowKit Go.Proofs.YtcamchdenjpmhaaDoor.F Go.Proofs.YtcamchdenjpmhaaDoor.Base Go.Proofs.YtcamchdenjpmhaaDoorW.PrintWords Go.Proofs.YtcamchdenjpmhaaDoorW.PrintLast Go.Proofs.YtcamchdenjpmhaaDoorW.PrintMore
set_option linter.unusedVariables false
set_option linter.unusedSimpArgs false
theorem laws_toByteS_l0 (l : List Int) (hl : l.length ≤ 1000000000) : ∀ (d k i : Nat), i + d = l.length → d < k → laws_toByteS.l0 k l (l.take i ++ List.replicate d 0) (i : Int) = some l := by
  intro d
  induction d with
  | zero =>
    intro k i hi hk
    obtain ⟨k, rfl⟩ : ∃ m, k = m + 1 := ⟨k - 1, by omega⟩
    rw [laws_toByteS.l0, if_neg (by omega)]
    simp only [List.replicate_zero, List.append_nil]
    rw [List.take_of_length_le (by omega)]
  | succ d ih =>
    intro k i hi hk
    obtain ⟨k, rfl⟩ : ∃ m, k = m + 1 := ⟨k - 1, by omega⟩
    have hi' : i < l.length := by omega
    have hel : rd l (i : Int) = l[i] := by simp [rd, List.getD_eq_getElem?_getD, hi']
    rw [laws_toByteS.l0, if_pos (by omega), if_pos (by omega), if_pos (by simp; omega), w64 (by omega) (by omega), hel]
    have e : (l.take i ++ List.replicate (d + 1) (0 : Int)).set (i : Int).toNat l[i] = l.take (i + 1) ++ List.replicate d 0 := by
      rw [Int.toNat_natCast, List.set_append_right _ _ (by simp; omega), List.length_take, Nat.min_eq_left (by omega), Nat.sub_self, List.replicate_succ, List.set_cons_zero, List.take_succ_eq_append_getElem hi', List.append_assoc]
      rfl
    rw [e]
    exact ih k (i + 1) (by omega) (by omega)
theorem laws_toByteS_eq (l : List Int) (hl : l.length ≤ 1000000000) (k : Nat) (hk : l.length < k) : laws_toByteS.f k l = some l := by
  unfold laws_toByteS.f
  rw [if_pos (by omega), if_pos (by omega), Int.toNat_natCast]
  have := laws_toByteS_l0 l hl l.length k 0 (by omega) hk
  simpa using this

end Go.Proofs.YtcamchdenjpmhaaDoor.Pure
namespace Go.Proofs.YtcamchdenjpmhaaDoor.Base
open Go.RowKit Go.Proofs.YtcamchdenjpmhaaDoorW.PrintWords Go.Proofs.YtcamchdenjpmhaaDoorW.PrintLast
/-- The number of some bytes behind a number. -/
def num (n : Int) : List UInt8 → Int
  | [] => n
  | c :: r => num (n * 256 + c.toNat) r
theorem list12 {α : Type} {l : List α} (h : l.length = 12) : ∃ c0 c1 c2 c3 c4 c5 c6 c7 c8 c9 c10 c11, l = [c0, c1, c2, c3, c4, c5, c6, c7, c8, c9, c10, c11] := by
  match l, h with
  | [c0, c1, c2, c3, c4, c5, c6, c7, c8, c9, c10, c11], _ => exact ⟨_, _, _, _, _, _, _, _, _, _, _, _, rfl⟩
end Go.Proofs.YtcamchdenjpmhaaDoor.Base
namespace Go.Proofs.YtcamchdenjpmhaaDoor.Pure
open Go.RowKit Go.Proofs.YtcamchdenjpmhaaDoor.F Go.Proofs.YtcamchdenjpmhaaDoor.Base Go.Proofs.YtcamchdenjpmhaaDoorW.PrintWords Go.Proofs.YtcamchdenjpmhaaDoorW.PrintLast Go.Proofs.YtcamchdenjpmhaaDoorW.PrintMore
set_option linter.unusedVariables false
set_option linter.unusedSimpArgs false
theorem impl_bit_eq (n i : Int) (h0 : 0 ≤ i) : impl_bit.f n i = some (Go.bits .and .i64 (shr .i64 n i) 1 == 1) := by
  unfold impl_bit.f
  rw [if_pos h0]

end Go.Proofs.YtcamchdenjpmhaaDoor.Pure
namespace Go.Proofs.YtcamchdenjpmhaaDoor.Base
open Go Go.RowKit Go.Proofs.YtcamchdenjpmhaaDoorW.PrintWords Go.Proofs.YtcamchdenjpmhaaDoorW.PrintMore

theorem wrap_u64 (n : Int) : IntKind.u64.wrap n = n % 18446744073709551616 := by simp [IntKind.wrap, IntKind.bits, IntKind.signed]
theorem u8_and1 (x : Int) (h0 : 0 ≤ x) (h1 : x < 256) : bits .and .u8 x 1 = x % 2 := bits_mask .u8 8 (by decide) wraps_u8 1 (by decide) x h0 h1
theorem bit_iff (c : UInt8) (n : Nat) (hn : n ≤ 7) (s : Int) (hs : s = (n : Int)) : (bits .and .u8 (shr .u8 (c.toNat : Int) s) 1 = 1) ↔ (c.toNat / 2 ^ n) % 2 = 1 := by
  subst hs
  have hc := byte_le c
  have e : shr .u8 (c.toNat : Int) (n : Int) = ((c.toNat / 2 ^ n : Nat) : Int) := by
    unfold shr
    rw [Int.toNat_natCast, Nat.min_eq_left (by simp only [IntKind.bits]; omega)]
    simp
  have hle : c.toNat / 2 ^ n ≤ c.toNat := Nat.div_le_self _ _
  rw [e]
  generalize c.toNat / 2 ^ n = q at hle ⊢
  rw [u8_and1 _ (by omega) (by omega)]
  omega

/-- Bit i of a row of bytes, the first byte's highest first. -/
def bitAt (b : List UInt8) (i : Nat) : Bool := decide (((b.getD (i / 8) 0).toNat / 2 ^ (7 - i % 8)) % 2 = 1)
/-- The types of a block: those of n bits from lo on. -/
def blk (w : Nat) (b : List UInt8) : Nat → Nat → List Int
  | _, 0 => []
  | lo, n + 1 => (if bitAt b lo = true then [256 * (w : Int) + (lo : Int)] else []) ++ blk w b (lo + 1) n
theorem blk_length (w : Nat) (b : List UInt8) : ∀ n lo, (blk w b lo n).length ≤ n := by
  intro n
  induction n with
  | zero => intro lo; simp [blk]
  | succ n ih =>
    intro lo
    have := ih (lo + 1)
    unfold blk
    split <;> simp <;> omega
theorem blk_add (w : Nat) (b : List UInt8) : ∀ m n lo, blk w b lo (m + n) = blk w b lo m ++ blk w b (lo + m) n := by
  intro m
  induction m with
  | zero => intro n lo; simp [blk]
  | succ m ih =>
    intro n lo
    rw [show m + 1 + n = (m + n) + 1 from by omega]
    rw [blk, blk, ih n (lo + 1), show lo + 1 + m = lo + (m + 1) from by omega, List.append_assoc]
/-- The types of a map whose blocks are above last; none: it is no map. -/
def tmap (last : Int) : List UInt8 → Option (List Int)
  | [] => some []
  | [_] => none
  | w :: n :: r => if (w.toNat : Int) ≤ last then none else if n.toNat < 1 then none else if 32 < n.toNat then none else if r.length < n.toNat then none else if (r.getD (n.toNat - 1) 0).toNat = 0 then none else (tmap (w.toNat : Int) (r.drop n.toNat)).map (blk w.toNat r 0 (8 * n.toNat) ++ ·)
  termination_by l => l.length
  decreasing_by simp; omega
def mres (acc : List Int) : Option (List Int) → List Int × Int
  | none => ([], 7)
  | some t => (acc ++ t, 0)
theorem mres_map (acc t : List Int) (o : Option (List Int)) : mres acc (o.map (t ++ ·)) = mres (acc ++ t) o := by
  cases o <;> simp [mres]
end Go.Proofs.YtcamchdenjpmhaaDoor.Base
namespace Go.Proofs.YtcamchdenjpmhaaDoor.Base
open Go.RowKit Go.Proofs.YtcamchdenjpmhaaDoorW.PrintWords Go.Proofs.YtcamchdenjpmhaaDoorW.PrintLast
def alnum (c : UInt8) : Bool := (decide (48 ≤ c.toNat) && decide (c.toNat ≤ 57)) || ((decide (97 ≤ c.toNat) && decide (c.toNat ≤ 122)) || (decide (65 ≤ c.toNat) && decide (c.toNat ≤ 90)))
/-- Short texts, one behind another, to the very end. -/
def exact : Nat → List UInt8 → Bool
  | _, [] => true
  | 0, _ => false
  | d + 1, c :: r => if r.length < c.toNat then false else exact d (r.drop c.toNat)
/-- What a letter of the program's forms takes. -/
def con (c : Nat) (l : List UInt8) : Option Nat :=
  if c = 49 then (if l.length < 1 then none else some 1) else if c = 50 then (if l.length < 2 then none else some 2) else if c = 52 ∨ c = 103 ∨ c = 113 then (if l.length < 4 then none else some 4)
  else if c = 110 then (if nm l = 0 then none else some (nm l)) else if c = 116 then (if tx l = 0 then none else some (tx l))
  else if c = 99 then (if tx l < 2 ∨ 16 < tx l then none else if ((l.take (tx l)).drop 1).all alnum then some (tx l) else none)
  else if c = 84 then (if l = [] then none else if exact l.length l then some l.length else none)
  else if c = 109 then (if (tmap (-1) l).isSome then some l.length else none) else if c = 42 then some l.length else none
def pg : List UInt8 → List UInt8 → Bool
  | [], l => l.isEmpty
  | c :: r, l => match con c.toNat l with | none => false | some n => pg r (l.drop n)
/-- The stretches that the names take, by the program's forms. -/
def psp : List UInt8 → Nat → List UInt8 → List (Nat × Nat)
  | [], _, _ => []
  | c :: r, p, l => match con c.toNat l with
    | none => []
    | some n => (if c.toNat = 110 then [(p, p + n)] else []) ++ psp r (p + n) (l.drop n)
def letters (l : List UInt8) : Prop := ∀ c ∈ l, c.toNat ∈ [49, 50, 52, 103, 113, 110, 116, 99, 84, 109, 42]
theorem tx_le (l : List UInt8) : tx l ≤ l.length := by
  cases l with
  | nil => exact Nat.zero_le _
  | cons c r => rw [tx]; split <;> simp <;> omega
theorem nm_le (l : List UInt8) : nm l ≤ l.length := (nmP_le l _ _).1
end Go.Proofs.YtcamchdenjpmhaaDoor.Base
namespace Go.Proofs.YtcamchdenjpmhaaDoor.Pure
open Go.RowKit Go.Proofs.YtcamchdenjpmhaaDoor.F Go.Proofs.YtcamchdenjpmhaaDoor.Base Go.Proofs.YtcamchdenjpmhaaDoorW.PrintWords Go.Proofs.YtcamchdenjpmhaaDoorW.PrintLast Go.Proofs.YtcamchdenjpmhaaDoorW.PrintMore
set_option linter.unusedVariables false
set_option linter.unusedSimpArgs false
-- base: BaseMap
theorem impl_MapTypes_l2 (x : ByteArray) (w n : UInt8) (p r : List UInt8) (hx : L x = p ++ w :: n :: r) (hp : p.length ≤ 10000000) (h3 : n.toNat ≤ 32) (h4 : n.toNat ≤ r.length) (last kk : Nat) (hkk : kk < n.toNat) (m : Nat) : ∀ (d j : Nat) (acc : List Int), j + d = 8 → acc.length + d ≤ 100000000 → impl_MapTypes.l2 (d + 1 + m) x acc (last : Int) (p.length : Int) (w.toNat : Int) (n.toNat : Int) (kk : Int) (j : Int) = impl_MapTypes.l1 m x (acc ++ blk w.toNat r (8 * kk + j) d) (last : Int) (p.length : Int) (w.toNat : Int) (n.toNat : Int) ((kk + 1 : Nat) : Int) := by
  have hs := size_L x
  rw [hx] at hs
  simp only [List.length_append, List.length_cons] at hs
  have hw := byte_le w
  intro d
  induction d with
  | zero =>
    intro j acc hj hb
    rw [show 0 + 1 + m = m + 1 from by omega]
    simp only [impl_MapTypes.l2]
    rw [if_neg (by omega), w64 (by omega) (by omega)]
    simp [blk]
  | succ d ih =>
    intro j acc hj hb
    rw [show d + 1 + 1 + m = (d + 1 + m) + 1 from by omega]
    simp only [impl_MapTypes.l2]
    rw [if_pos (by omega)]
    simp (maxSteps := 10000000) (disch := omega) only [w64]
    rw [if_pos (by omega), if_pos (by omega), if_pos (by omega)]
    have b2 : bt x ((p.length : Int) + 2 + (kk : Int)) = ((r.getD kk 0).toNat : Int) := by
      rw [bt_L, hx, show ((p.length : Int) + 2 + (kk : Int)).toNat = p.length + (kk + 2) from by omega, getD_len]
      simp [List.getD_eq_getElem?_getD]
    rw [b2]
    have hbit := bit_iff (r.getD kk 0) (7 - j) (by omega) (7 - (j : Int)) (by omega)
    have e8 : (8 * kk + j) / 8 = kk := by omega
    have e8' : (8 * kk + j) % 8 = j := by omega
    rw [blk]
    by_cases hB : bitAt r (8 * kk + j) = true
    · have hB' : ((r.getD kk 0).toNat / 2 ^ (7 - j)) % 2 = 1 := by unfold bitAt at hB; rw [e8, e8'] at hB; exact of_decide_eq_true hB
      rw [if_pos (hbit.2 hB'), if_pos (by omega), if_pos hB]
      have := ih (j + 1) (acc ++ [256 * (w.toNat : Int) + ((8 * kk + j : Nat) : Int)]) (by omega) (by simp; omega)
      rw [show ((j + 1 : Nat) : Int) = (j : Int) + 1 from by omega, List.append_assoc, show 8 * kk + (j + 1) = 8 * kk + j + 1 from by omega] at this
      rw [← this, show 256 * (w.toNat : Int) + ((8 * kk + j : Nat) : Int) = 256 * (w.toNat : Int) + 8 * (kk : Int) + (j : Int) from by omega]
    · have hB' : ¬ ((r.getD kk 0).toNat / 2 ^ (7 - j)) % 2 = 1 := by unfold bitAt at hB; rw [e8, e8'] at hB; simpa using hB
      rw [if_neg (fun h => hB' (hbit.1 h)), if_neg hB]
      have := ih (j + 1) acc (by omega) (by omega)
      rw [show ((j + 1 : Nat) : Int) = (j : Int) + 1 from by omega, show 8 * kk + (j + 1) = 8 * kk + j + 1 from by omega] at this
      rw [this, List.nil_append]
theorem impl_MapTypes_l1 (x : ByteArray) (w n : UInt8) (p r : List UInt8) (hx : L x = p ++ w :: n :: r) (hp : p.length ≤ 10000000) (h3 : n.toNat ≤ 32) (h4 : n.toNat ≤ r.length) (last : Nat) (m : Nat) : ∀ (d kk : Nat) (acc : List Int), kk + d = n.toNat → acc.length + 8 * d ≤ 100000000 → impl_MapTypes.l1 (10 * d + 1 + m) x acc (last : Int) (p.length : Int) (w.toNat : Int) (n.toNat : Int) (kk : Int) = impl_MapTypes.l0 m x (acc ++ blk w.toNat r (8 * kk) (8 * d)) (last : Int) ((p.length + 2 + n.toNat : Nat) : Int) := by
  intro d
  induction d with
  | zero =>
    intro kk acc hk hb
    rw [show 10 * 0 + 1 + m = m + 1 from by omega]
    simp only [impl_MapTypes.l1]
    rw [if_neg (by omega)]
    simp (maxSteps := 10000000) (disch := omega) only [w64]
    simp only [Nat.mul_zero, blk, List.append_nil]
    rw [show (p.length : Int) + (2 + (n.toNat : Int)) = ((p.length + 2 + n.toNat : Nat) : Int) from by omega]
  | succ d ih =>
    intro kk acc hk hb
    rw [show 10 * (d + 1) + 1 + m = (8 + 1 + (10 * d + 1 + m)) + 1 from by omega]
    simp only [impl_MapTypes.l1]
    rw [if_pos (by omega)]
    have h2 := impl_MapTypes_l2 x w n p r hx hp h3 h4 last kk (by omega) (10 * d + 1 + m) 8 0 acc (by omega) (by omega)
    rw [show ((0 : Nat) : Int) = 0 from rfl] at h2
    have hl := blk_length w.toNat r 8 (8 * kk + 0)
    rw [h2, ih (kk + 1) _ (by omega) (by simp only [List.length_append]; omega), List.append_assoc, show 8 * (d + 1) = 8 + 8 * d from by omega, blk_add, show 8 * (kk + 1) = 8 * kk + 8 from by omega, Nat.add_zero]
theorem impl_MapTypes_l0 (x : ByteArray) (hx0 : x.size ≤ 1048576) : ∀ (N k : Nat) (acc : List Int) (last : Int) (p r : List UInt8), L x = p ++ r → r.length ≤ N → 400 * N < k → acc.length + 8 * r.length ≤ 90000000 → impl_MapTypes.l0 k x acc last (p.length : Int) = some (mres acc (tmap last r)) := by
  intro N
  induction N with
  | zero =>
    intro k acc last p r hx hn hk hb
    obtain ⟨k, rfl⟩ : ∃ m, k = m + 1 := ⟨k - 1, by omega⟩
    obtain rfl : r = [] := List.length_eq_zero_iff.1 (by omega)
    have hs := size_L x
    rw [hx] at hs
    simp only [List.append_nil] at hs
    simp only [impl_MapTypes.l0]
    rw [if_neg (by omega)]
    simp [tmap, mres]
  | succ N ih =>
    intro k acc last p r hx hn hk hb
    obtain ⟨k, rfl⟩ : ∃ m, k = m + 1 := ⟨k - 1, by omega⟩
    have hs := size_L x
    rw [hx] at hs
    simp only [impl_MapTypes.l0]
    match r, hx, hs, hn, hb with
    | [], hx, hs, hn, hb =>
      simp only [List.append_nil] at hs
      rw [if_neg (by omega)]
      simp [tmap, mres]
    | [c], hx, hs, hn, hb =>
      simp only [List.length_append, List.length_cons, List.length_nil] at hs
      rw [if_pos (by omega), w64 (by omega) (by omega), if_pos (by omega)]
      simp [tmap, mres]
    | w :: n :: r, hx, hs, hn, hb =>
      simp only [List.length_append, List.length_cons] at hs hn hb
      have hw := byte_le w
      have hnb := byte_le n
      have b0 : bt x (p.length : Int) = (w.toNat : Int) := bt_mid hx rfl
      have b1 : bt x ((p.length : Int) + 1) = (n.toNat : Int) := bt_mid (p := p ++ [w]) (c := n) (r := r) (by rw [hx]; simp) (by simp)
      rw [if_pos (by omega)]
      simp (maxSteps := 10000000) (disch := omega) only [w64]
      rw [if_neg (by omega), if_pos (by omega), if_pos (by omega), if_pos (by omega), b0, b1]
      rw [tmap]
      obtain ⟨k, rfl⟩ : ∃ m, k = m + 1 := ⟨k - 1, by omega⟩
      simp only [impl_MapTypes.j1, if_true]
      by_cases h1 : (w.toNat : Int) ≤ last
      · rw [if_pos h1, if_pos h1]; rfl
      rw [if_neg h1, if_neg h1]
      by_cases h2 : n.toNat < 1
      · rw [if_pos (by omega), if_pos h2]; rfl
      rw [if_neg (by omega), if_neg h2]
      by_cases h3 : 32 < n.toNat
      · rw [if_pos (by omega), if_pos h3]; rfl
      rw [if_neg (by omega), if_neg h3]
      by_cases h4 : r.length < n.toNat
      · rw [if_pos (by omega), if_pos h4]; rfl
      rw [if_neg (by omega), if_neg h4, if_pos (by omega), if_pos (by omega)]
      have b2 : bt x ((p.length : Int) + 1 + (n.toNat : Int)) = ((r.getD (n.toNat - 1) 0).toNat : Int) := by
        rw [bt_L, hx, show ((p.length : Int) + 1 + (n.toNat : Int)).toNat = p.length + (n.toNat - 1 + 2) from by omega, getD_len]
        simp [List.getD_eq_getElem?_getD]
      rw [b2]
      by_cases h5 : (r.getD (n.toNat - 1) 0).toNat = 0
      · rw [if_pos (by rw [beq_iff_eq]; omega), if_pos h5]; rfl
      rw [if_neg (by rw [beq_iff_eq]; omega), if_neg h5]
      obtain ⟨m, rfl⟩ : ∃ m, k = 10 * n.toNat + 1 + m := ⟨k - (10 * n.toNat + 1), by omega⟩
      have hl1 := impl_MapTypes_l1 x w n p r hx (by omega) (by omega) (by omega) w.toNat m n.toNat 0 acc (by omega) (by omega)
      rw [show ((0 : Nat) : Int) = 0 from rfl] at hl1
      rw [hl1]
      have hbl := blk_length w.toNat r (8 * n.toNat) 0
      have e2 : ((p.length + 2 + n.toNat : Nat) : Int) = ((p ++ w :: n :: r.take n.toNat).length : Int) := by simp [List.length_take]; omega
      rw [e2, ih m _ _ (p ++ w :: n :: r.take n.toNat) (r.drop n.toNat) (by rw [hx]; simp) (by simp; omega) (by omega) (by simp; omega), mres_map]
theorem impl_MapTypes_eq (a : ByteArray) (ha : a.size ≤ 1048576) (k : Nat) (hk : 450000000 ≤ k) : impl_MapTypes.f k a = some (mres [] (tmap (-1) (L a))) := by
  have hs := size_L a
  unfold impl_MapTypes.f
  exact impl_MapTypes_l0 a ha (L a).length k [] (-1) [] (L a) rfl (Nat.le_refl _) (by omega) (by simp; omega)

end Go.Proofs.YtcamchdenjpmhaaDoor.Pure
namespace Go.Proofs.YtcamchdenjpmhaaDoor.Pure
open Go.RowKit Go.Proofs.YtcamchdenjpmhaaDoor.F Go.Proofs.YtcamchdenjpmhaaDoor.Base Go.Proofs.YtcamchdenjpmhaaDoorW.PrintWords Go.Proofs.YtcamchdenjpmhaaDoorW.PrintLast Go.Proofs.YtcamchdenjpmhaaDoorW.PrintMore
set_option linter.unusedVariables false
set_option linter.unusedSimpArgs false
-- base: BaseData
theorem impl_nameAt_l0 (x : ByteArray) (hx : x.size ≤ 1000000000) : ∀ (d p k : Nat), x.size ≤ p + d → p ≤ x.size + 64 → d < k → impl_nameAt.l0 k x (p : Int) = some (nmP (L x) d p : Int) := by
  intro d
  induction d with
  | zero =>
    intro p k h1 h2 hk
    obtain ⟨k, rfl⟩ : ∃ m, k = m + 1 := ⟨k - 1, by omega⟩
    rw [impl_nameAt.l0, if_neg (by omega)]
    rfl
  | succ d ih =>
    intro p k h1 h2 hk
    obtain ⟨k, rfl⟩ : ∃ m, k = m + 1 := ⟨k - 1, by omega⟩
    rw [impl_nameAt.l0]
    by_cases hp : p < x.size
    · have hl : p < (L x).length := by rw [← size_L]; exact hp
      have hc := byte_le (L x)[p]
      rw [if_pos (by omega), if_pos (by omega), bt_get hl, nmP, drop_at hl]
      generalize (L x)[p] = c at *
      rw [w64 (x := (c.toNat : Int)) (by omega) (by omega)]
      simp only
      by_cases h0 : c.toNat = 0
      · rw [if_pos (by omega), if_pos h0, w64 (by omega) (by omega)]
        by_cases h3 : 255 < p + 1
        · rw [if_pos (by omega), if_pos h3]; rfl
        · rw [if_neg (by omega), if_neg h3]; rfl
      · rw [if_neg (by omega), if_neg h0]
        by_cases h63 : 63 < c.toNat
        · rw [if_pos (by omega), if_pos h63]; rfl
        · rw [if_neg (by omega), if_neg h63, w64 (x := 1 + (c.toNat : Int)) (by omega) (by omega), w64 (by omega) (by omega)]
          have := ih (p + 1 + c.toNat) k (by omega) (by omega) (by omega)
          rw [← this]
          congr 1
          omega
    · rw [if_neg (by omega), nmP, List.drop_of_length_le (by rw [← size_L]; omega)]
      rfl
theorem impl_nameAt_eq (x : ByteArray) (hx : x.size ≤ 1000000000) (k : Nat) (hk : x.size + 1 < k) : impl_nameAt.f k x = some (nm (L x) : Int) := by
  unfold impl_nameAt.f nm
  rw [← size_L]
  exact impl_nameAt_l0 x hx (x.size + 1) 0 k (by omega) (by omega) hk

end Go.Proofs.YtcamchdenjpmhaaDoor.Pure
namespace Go.Proofs.YtcamchdenjpmhaaDoor.Pure
open Go.RowKit Go.Proofs.YtcamchdenjpmhaaDoor.F Go.Proofs.YtcamchdenjpmhaaDoor.Base Go.Proofs.YtcamchdenjpmhaaDoorW.PrintWords Go.Proofs.YtcamchdenjpmhaaDoorW.PrintLast Go.Proofs.YtcamchdenjpmhaaDoorW.PrintMore
set_option linter.unusedVariables false
set_option linter.unusedSimpArgs false
-- base: BaseForm
theorem impl_parsed_alnum (c : UInt8) : impl_parsed.alnum (c.toNat : Int) = alnum c := by
  unfold impl_parsed.alnum alnum
  congr 1 <;> (try congr 1) <;> (try congr 1) <;> simp <;> omega
theorem impl_parsed_tMost (s : ByteArray) : ∀ (d k : Nat), k ≤ s.size + 256 → impl_parsed.tEnd s d k ≤ s.size + 256 := by
  intro d
  induction d with
  | zero => intro k h; exact h
  | succ d ih =>
    intro k h
    rw [impl_parsed.tEnd]
    split
    · have := bt_range s (k : Int)
      exact ih _ (by omega)
    · exact h
theorem impl_parsed_tEnd (s : ByteArray) : ∀ (d k : Nat), s.size ≤ k + d → s.size ≤ impl_parsed.tEnd s d k ∧ k ≤ impl_parsed.tEnd s d k ∧ (impl_parsed.tEnd s d k = s.size ↔ (k ≤ s.size ∧ exact d ((L s).drop k) = true)) := by
  have hs := size_L s
  intro d
  induction d with
  | zero =>
    intro k h
    refine ⟨by rw [impl_parsed.tEnd]; omega, by rw [impl_parsed.tEnd]; omega, ?_⟩
    rw [impl_parsed.tEnd, List.drop_of_length_le (by omega)]
    simp [exact]
    omega
  | succ d ih =>
    intro k h
    rw [impl_parsed.tEnd]
    by_cases hk : k < s.size
    · have hl : k < (L s).length := by omega
      rw [if_pos hk, drop_at hl, exact, bt_get hl]
      generalize (L s)[k] = c
      have e : k + 1 + (c.toNat : Int).toNat = k + 1 + c.toNat := by omega
      rw [e]
      obtain ⟨h1, h2, h3⟩ := ih (k + 1 + c.toNat) (by omega)
      refine ⟨h1, by omega, ?_⟩
      rw [h3, List.drop_drop, List.length_drop]
      by_cases hc : (L s).length - (k + 1) < c.toNat
      · rw [if_pos hc]
        simp
        omega
      · rw [if_neg hc]
        exact ⟨fun h => ⟨by omega, h.2⟩, fun h => ⟨by omega, h.2⟩⟩
    · rw [if_neg hk, List.drop_of_length_le (by omega)]
      refine ⟨by omega, Nat.le_refl _, ?_⟩
      simp [exact]
      omega
theorem impl_parsed_n (s : ByteArray) (hs : s.size ≤ 65535) (K : Nat) (hK : 450000000 ≤ K) (c : UInt8) (hc : c.toNat ∈ [49, 50, 52, 103, 113, 110, 116, 99, 84, 109, 42]) (p : Nat) (hp : p ≤ s.size) (l : List UInt8) (hl : (L s).drop p = l) :
    ∃ o, impl_parsed.n K (c.toNat : Int) s p = some o ∧ (match o with | none => con c.toNat l = none | some n => 0 ≤ n ∧ n ≤ 100000 ∧ con c.toNat l = if (s.size : Int) < (p : Int) + n then none else some n.toNat) := by
  have hlen : l.length = s.size - p := by rw [← hl, List.length_drop, ← size_L]
  have hx : L (s.extract p s.size) = l := by rw [L_extract, hl, List.take_of_length_le (by omega)]
  have hxs : (s.extract p s.size).size = l.length := by rw [size_L, hx]
  have hbt : ∀ b t, l = b :: t → bt s (p : Int) = (b.toNat : Int) := fun b t e => by
    have h1 : p < (L s).length := by
      rw [← size_L]
      rw [e] at hlen
      simp at hlen
      omega
    rw [bt_get h1]
    rw [drop_at h1, e] at hl
    rw [(List.cons.inj hl).1]
  have fix : ∀ m : Nat, (if l.length < m then (none : Option Nat) else some m) = if (s.size : Int) < (p : Int) + (m : Int) then none else some ((m : Int)).toNat := by
    intro m
    by_cases h1 : l.length < m
    · rw [if_pos h1, if_pos (by omega)]
    · rw [if_neg h1, if_neg (by omega)]; rfl
  simp only [List.mem_cons, List.not_mem_nil, or_false] at hc
  rcases hc with h | h | h | h | h | h | h | h | h | h | h <;> rw [h]
  · exact ⟨some 1, by simp [impl_parsed.n], by decide, by decide, by unfold con; rw [if_pos rfl]; exact fix 1⟩
  · exact ⟨some 2, by simp [impl_parsed.n], by decide, by decide, by unfold con; rw [if_neg (by decide), if_pos rfl]; exact fix 2⟩
  · exact ⟨some 4, by simp [impl_parsed.n], by decide, by decide, by unfold con; rw [if_neg (by decide), if_neg (by decide), if_pos (by decide)]; exact fix 4⟩
  · exact ⟨some 4, by simp [impl_parsed.n], by decide, by decide, by unfold con; rw [if_neg (by decide), if_neg (by decide), if_pos (by decide)]; exact fix 4⟩
  · exact ⟨some 4, by simp [impl_parsed.n], by decide, by decide, by unfold con; rw [if_neg (by decide), if_neg (by decide), if_pos (by decide)]; exact fix 4⟩
  · have e1 : impl_parsed.n K ((110 : Nat) : Int) s p = (impl_nameAt.f K (s.extract p s.size)).bind fun n => some (if n = 0 then none else some n) := by unfold impl_parsed.n; simp
    have e2 : con 110 l = if nm l = 0 then none else some (nm l) := by unfold con; simp
    rw [e1, e2, impl_nameAt_eq _ (by omega) K (by omega), Option.bind_some, hx]
    have h1 := nm_le l
    by_cases h0 : nm l = 0
    · exact ⟨none, by rw [if_pos (by omega)], by rw [if_pos h0]⟩
    · exact ⟨some (nm l : Int), by rw [if_neg (by omega)], by omega, by omega, by rw [if_neg h0, if_neg (by omega)]; rfl⟩
  · have e1 : impl_parsed.n K ((116 : Nat) : Int) s p = some (if s.size ≤ p then none else some (1 + bt s (p : Int))) := by unfold impl_parsed.n; simp
    have e2 : con 116 l = if tx l = 0 then none else some (tx l) := by unfold con; simp
    rw [e1, e2]
    cases l with
    | nil => exact ⟨none, by rw [if_pos (by simp at hlen; omega)], rfl⟩
    | cons b t =>
      have hb := byte_le b
      simp only [List.length_cons] at hlen
      rw [hbt b t rfl, tx, if_neg (by omega)]
      refine ⟨_, rfl, by omega, by omega, ?_⟩
      by_cases h1 : t.length < b.toNat
      · rw [if_pos h1, if_pos rfl, if_pos (by omega)]
      · rw [if_neg h1, if_neg (by omega), if_neg (by omega)]
        congr 1
        omega
  · have e1 : impl_parsed.n K ((99 : Nat) : Int) s p = some (if s.size ≤ p then none else if 1 + bt s (p : Int) < 2 then none else if 16 < 1 + bt s (p : Int) then none else if (s.size : Int) < (p : Int) + (1 + bt s (p : Int)) then none else if (bytesOf (s.extract (p + 1) (p + (1 + bt s (p : Int)).toNat))).all impl_parsed.alnum then some (1 + bt s (p : Int)) else none) := by unfold impl_parsed.n; simp
    have e2 : con 99 l = if tx l < 2 ∨ 16 < tx l then none else if ((l.take (tx l)).drop 1).all alnum then some (tx l) else none := by unfold con; simp
    rw [e1, e2]
    cases l with
    | nil => exact ⟨none, by rw [if_pos (by simp at hlen; omega)], rfl⟩
    | cons b t =>
      have hb := byte_le b
      simp only [List.length_cons] at hlen
      rw [hbt b t rfl, if_neg (by omega)]
      have hdt : (L s).drop (p + 1) = t := by
        rw [← List.drop_drop, hl]
        rfl
      by_cases h1 : t.length < b.toNat
      · have h2 : tx (b :: t) = 0 := by rw [tx, if_pos h1]
        rw [h2, if_pos (show ((0 : Nat) < 2 ∨ 16 < (0 : Nat)) from .inl (by decide))]
        refine ⟨none, ?_, rfl⟩
        by_cases g1 : (1 : Int) + b.toNat < 2
        · rw [if_pos g1]
        · rw [if_neg g1]
          by_cases g2 : 16 < (1 : Int) + b.toNat
          · rw [if_pos g2]
          · rw [if_neg g2, if_pos (by omega)]
      · have h2 : tx (b :: t) = b.toNat + 1 := by rw [tx, if_neg h1]
        rw [h2]
        by_cases g1 : (1 : Int) + b.toNat < 2
        · exact ⟨none, by rw [if_pos g1], by rw [if_pos (show (b.toNat + 1 < 2 ∨ 16 < b.toNat + 1) by omega)]⟩
        · by_cases g2 : 16 < (1 : Int) + b.toNat
          · exact ⟨none, by rw [if_neg g1, if_pos g2], by rw [if_pos (show (b.toNat + 1 < 2 ∨ 16 < b.toNat + 1) by omega)]⟩
          · rw [if_neg g1, if_neg g2, if_neg (show ¬ ((s.size : Int) < (p : Int) + ((1 : Int) + b.toNat)) by omega), if_neg (show ¬ (b.toNat + 1 < 2 ∨ 16 < b.toNat + 1) by omega)]
            have h3 : (bytesOf (s.extract (p + 1) (p + ((1 : Int) + b.toNat).toNat))).all impl_parsed.alnum = (((b :: t).take (b.toNat + 1)).drop 1).all alnum := by
              have h4 : bytesOf (s.extract (p + 1) (p + ((1 : Int) + b.toNat).toNat)) = (L (s.extract (p + 1) (p + ((1 : Int) + b.toNat).toNat))).map fun c => (c.toNat : Int) := rfl
              rw [h4, L_extract, hdt, show p + ((1 : Int) + b.toNat).toNat - (p + 1) = b.toNat from by omega, List.all_map]
              rw [List.take_succ_cons, List.drop_succ_cons, List.drop_zero]
              congr 1
              funext c
              exact impl_parsed_alnum c
            rw [h3]
            by_cases g3 : (((b :: t).take (b.toNat + 1)).drop 1).all alnum = true
            · rw [if_pos g3, if_pos g3]
              refine ⟨_, rfl, by omega, by omega, ?_⟩
              rw [if_neg (by omega)]
              congr 1
              omega
            · rw [if_neg g3, if_neg g3]
              exact ⟨none, rfl, rfl⟩
  · have e1 : impl_parsed.n K ((84 : Nat) : Int) s p = some (if impl_parsed.tEnd s (s.size - p) p = p then none else some ((impl_parsed.tEnd s (s.size - p) p : Int) - p)) := by unfold impl_parsed.n; simp
    have e2 : con 84 l = if l = [] then none else if exact l.length l then some l.length else none := by unfold con; simp
    rw [e1, e2]
    obtain ⟨h1, h2, h3⟩ := impl_parsed_tEnd s (s.size - p) p (by omega)
    have h4 := impl_parsed_tMost s (s.size - p) p (by omega)
    have hex : exact (s.size - p) l = exact l.length l := by rw [hlen]
    rw [hl, hex] at h3
    generalize impl_parsed.tEnd s (s.size - p) p = e at *
    by_cases hn : l = []
    · have h0 : l.length = 0 := by rw [hn]; rfl
      have h5 : exact l.length l = true := by rw [hn]; rfl
      have h6 := h3.2 ⟨hp, h5⟩
      exact ⟨none, by rw [if_pos (by omega)], by rw [if_pos hn]⟩
    · have h0 : l.length ≠ 0 := fun h => hn (List.eq_nil_of_length_eq_zero h)
      refine ⟨some ((e : Int) - p), by rw [if_neg (by omega)], by omega, by omega, ?_⟩
      rw [if_neg hn]
      by_cases h5 : exact l.length l = true
      · have h6 := h3.2 ⟨hp, h5⟩
        rw [if_pos h5, if_neg (by omega)]
        congr 1
        omega
      · have h6 : ¬ e = s.size := fun h => h5 (h3.1 h).2
        rw [if_neg h5, if_pos (by omega)]
  · have e1 : impl_parsed.n K ((109 : Nat) : Int) s p = (impl_MapTypes.f K (s.extract p s.size)).bind fun r => some (if r.2 = 0 then some ((s.size : Int) - p) else none) := by unfold impl_parsed.n; simp
    have e2 : con 109 l = if (tmap (-1) l).isSome then some l.length else none := by unfold con; simp
    rw [e1, e2, impl_MapTypes_eq _ (by omega) K (by omega), Option.bind_some, hx]
    cases tmap (-1) l with
    | none => exact ⟨none, by rw [mres, if_neg (by decide)], rfl⟩
    | some ts => exact ⟨some ((s.size : Int) - p), by rw [mres, if_pos rfl], by omega, by omega, by rw [Option.isSome_some, if_pos rfl, if_neg (by omega)]; congr 1; omega⟩
  · exact ⟨some ((s.size : Int) - p), by simp [impl_parsed.n], by omega, by omega, by unfold con; simp; omega⟩
theorem impl_parsed_go (s : ByteArray) (hs : s.size ≤ 65535) (K : Nat) (hK : 450000000 ≤ K) : ∀ (r : List UInt8) (p : Nat) (sp : List _), letters r → p ≤ s.size → ∃ sp', impl_parsed.go K s r p sp = some (sp', pg r ((L s).drop p)) ∧ (pg r ((L s).drop p) = true → sp' = sp ++ (psp r p ((L s).drop p)).map fun x => ⟨(x.1 : Int), (x.2 : Int)⟩) := by
  intro r
  induction r with
  | nil =>
    intro p sp _ hp
    refine ⟨sp, ?_, fun _ => by simp [psp]⟩
    rw [impl_parsed.go, pg]
    congr 2
    rw [Bool.eq_iff_iff, List.isEmpty_iff, List.drop_eq_nil_iff, ← size_L, beq_iff_eq]
    omega
  | cons c r ih =>
    intro p sp hr hp
    obtain ⟨o, h1, h2⟩ := impl_parsed_n s hs K hK c (hr c (by simp)) p hp _ rfl
    rw [impl_parsed.go, h1, Option.bind_some, pg, psp]
    cases o with
    | none =>
      simp only at h2
      rw [h2]
      exact ⟨[], rfl, fun e => by cases e⟩
    | some n =>
      simp only at h2
      obtain ⟨h3, h4, h5⟩ := h2
      simp only
      rw [if_neg (by omega), h5]
      by_cases h6 : (s.size : Int) < (p : Int) + n
      · rw [if_pos h6, if_pos h6]
        exact ⟨[], rfl, fun e => by cases e⟩
      · rw [if_neg h6, if_neg h6]
        obtain ⟨sp', h7, h8⟩ := ih (p + n.toNat) (if (c.toNat : Int) = 110 then sp ++ [⟨p, (p : Int) + n⟩] else sp) (fun x hx => hr x (by simp [hx])) (by omega)
        refine ⟨sp', ?_, ?_⟩
        · rw [h7]
          simp only [List.drop_drop]
        · simp only [List.drop_drop]
          intro e
          rw [h8 e]
          by_cases h9 : (c.toNat : Int) = 110
          · rw [if_pos h9, if_pos (by omega), List.append_assoc]
            simp only [List.map_append, List.map_cons, List.map_nil]
            rw [show ((p + n.toNat : Nat) : Int) = (p : Int) + n from by omega]
          · rw [if_neg h9, if_neg (by omega), List.nil_append]

end Go.Proofs.YtcamchdenjpmhaaDoor.Pure
namespace Go.Proofs.YtcamchdenjpmhaaDoor.Pure
open Go.RowKit Go.Proofs.YtcamchdenjpmhaaDoor.F Go.Proofs.YtcamchdenjpmhaaDoor.Base Go.Proofs.YtcamchdenjpmhaaDoorW.PrintWords Go.Proofs.YtcamchdenjpmhaaDoorW.PrintLast Go.Proofs.YtcamchdenjpmhaaDoorW.PrintMore
set_option linter.unusedVariables false
set_option linter.unusedSimpArgs false
-- base: BaseForm
/-- The reference's form of a type. -/
def sform (t : Int) : List UInt8 :=
  if t = 1 then [98, 98, 98, 98] else if t = 2 ∨ t = 5 ∨ t = 12 ∨ t = 39 then [110] else if t = 6 then [110, 110, 98, 98, 98, 98, 98, 98, 98, 98, 98, 98, 98, 98, 98, 98, 98, 98, 98, 98, 98, 98]
  else if t = 13 then [116, 116] else if t = 15 then [98, 98, 110] else if t = 16 then [115] else if t = 28 then [98, 98, 98, 98, 98, 98, 98, 98, 98, 98, 98, 98, 98, 98, 98, 98]
  else if t = 33 then [98, 98, 98, 98, 98, 98, 110] else if t = 35 then [98, 98, 98, 98, 116, 116, 116, 110] else if t = 47 then [110, 109] else if t = 257 then [98, 99] else [42]
theorem spec_l02Form_eq (t : Int) (k : Nat) (hk : 1 ≤ k) : spec_l02Form.f k t = some (B (sform t)) := by
  obtain ⟨k, rfl⟩ : ∃ m, k = m + 1 := ⟨k - 1, by omega⟩
  unfold spec_l02Form.f
  by_cases c1 : t = 1
  · subst c1; rfl
  by_cases c2 : t = 2
  · subst c2; rfl
  by_cases c5 : t = 5
  · subst c5; rfl
  by_cases c12 : t = 12
  · subst c12; rfl
  by_cases c39 : t = 39
  · subst c39; rfl
  rw [if_neg c1, if_neg c2, if_neg c5, if_neg c12, spec_l02Form.j0, if_neg (by simpa using c39)]
  have hs : sform t = (if t = 6 then [110, 110, 98, 98, 98, 98, 98, 98, 98, 98, 98, 98, 98, 98, 98, 98, 98, 98, 98, 98, 98, 98]
      else if t = 13 then [116, 116] else if t = 15 then [98, 98, 110] else if t = 16 then [115] else if t = 28 then [98, 98, 98, 98, 98, 98, 98, 98, 98, 98, 98, 98, 98, 98, 98, 98]
      else if t = 33 then [98, 98, 98, 98, 98, 98, 110] else if t = 35 then [98, 98, 98, 98, 116, 116, 116, 110] else if t = 47 then [110, 109] else if t = 257 then [98, 99] else [42]) := by
    unfold sform
    rw [if_neg c1, if_neg (show ¬ (t = 2 ∨ t = 5 ∨ t = 12 ∨ t = 39) by omega)]
  rw [hs]
  by_cases c6 : t = 6
  · subst c6; rfl
  by_cases c13 : t = 13
  · subst c13; rfl
  by_cases c15 : t = 15
  · subst c15; rfl
  by_cases c16 : t = 16
  · subst c16; rfl
  by_cases c28 : t = 28
  · subst c28; rfl
  by_cases c33 : t = 33
  · subst c33; rfl
  by_cases c35 : t = 35
  · subst c35; rfl
  by_cases c47 : t = 47
  · subst c47; rfl
  by_cases c257 : t = 257
  · subst c257; rfl
  simp only [if_neg c6, if_neg c13, if_neg c15, if_neg c16, if_neg c28, if_neg c33, if_neg c35, if_neg c47, if_neg c257]
  rfl

end Go.Proofs.YtcamchdenjpmhaaDoor.Pure
namespace Go.Proofs.YtcamchdenjpmhaaDoor.Pure
open Go.RowKit Go.Proofs.YtcamchdenjpmhaaDoor.F Go.Proofs.YtcamchdenjpmhaaDoor.Base Go.Proofs.YtcamchdenjpmhaaDoorW.PrintWords Go.Proofs.YtcamchdenjpmhaaDoorW.PrintLast Go.Proofs.YtcamchdenjpmhaaDoorW.PrintMore
set_option linter.unusedVariables false
set_option linter.unusedSimpArgs false
-- base: BaseMap
theorem spec_l02Map_l0 : ∀ (N k : Nat) (x : ByteArray) (last : Int), x.size ≤ N → N < k → spec_l02Map.l0 k x last = some (tmap last (L x)).isSome := by
  intro N
  induction N with
  | zero =>
    intro k x last hn hk
    obtain ⟨k, rfl⟩ : ∃ m, k = m + 1 := ⟨k - 1, by omega⟩
    have hs := size_L x
    have hx : L x = [] := List.length_eq_zero_iff.1 (by omega)
    simp only [spec_l02Map.l0, toL]
    rw [if_pos hx, hx]
    simp [tmap]
  | succ N ih =>
    intro k x last hn hk
    obtain ⟨k, rfl⟩ : ∃ m, k = m + 1 := ⟨k - 1, by omega⟩
    have hs := size_L x
    simp only [spec_l02Map.l0, toL]
    match hx : L x with
    | [] => rw [if_pos rfl]; simp [tmap]
    | [c] =>
      rw [hx] at hs
      simp only [List.length_cons, List.length_nil] at hs
      rw [if_neg (by simp), if_pos (by omega)]
      simp [tmap]
    | w :: n :: r =>
      rw [hx] at hs
      simp only [List.length_cons] at hs
      have hw := byte_le w
      have hnb := byte_le n
      have b0 : bt x 0 = (w.toNat : Int) := bt_cons hx
      have b1 : bt x 1 = (n.toNat : Int) := bt_mid (p := [w]) hx rfl
      rw [if_neg (by simp), if_neg (by omega), if_pos (by omega), if_pos (by omega), b0, b1]
      simp (maxSteps := 10000000) (disch := omega) only [w64]
      rw [tmap]
      by_cases h1 : (w.toNat : Int) ≤ last
      · rw [if_pos h1, if_pos h1]; rfl
      · rw [if_neg h1, if_neg h1]
        by_cases h2 : n.toNat < 1
        · rw [if_pos (by omega), if_pos h2]; rfl
        · rw [if_neg (by omega), if_neg h2]
          by_cases h3 : 32 < n.toNat
          · rw [if_pos (by omega), if_pos h3]; rfl
          · rw [if_neg (by omega), if_neg h3]
            by_cases h4 : r.length < n.toNat
            · rw [if_pos (by omega), if_pos h4]; rfl
            · rw [if_neg (by omega), if_neg h4, if_pos (by omega), if_pos (by omega)]
              have b2 : bt x ((n.toNat : Int) + 1) = ((r.getD (n.toNat - 1) 0).toNat : Int) := by
                rw [bt_L, hx, show ((n.toNat : Int) + 1).toNat = (n.toNat - 1) + 2 from by omega]
                simp [List.getD_eq_getElem?_getD]
              rw [b2]
              by_cases h5 : (r.getD (n.toNat - 1) 0).toNat = 0
              · rw [if_pos (by omega), if_pos h5]; rfl
              · rw [if_neg (by omega), if_neg h5, if_pos (by omega), if_pos (by omega)]
                have e2 : L (x.extract ((n.toNat : Int) + 2).toNat x.size) = r.drop n.toNat := by
                  rw [L_extract, hx, hs, show ((n.toNat : Int) + 2).toNat = n.toNat + 2 from by omega]
                  simp [List.take_of_length_le]
                rw [ih k _ _ (by rw [size_L, e2]; simp; omega) (by omega), e2]
                cases tmap (w.toNat : Int) (r.drop n.toNat) <;> simp
theorem spec_l02Map_eq (a : ByteArray) (k : Nat) (hk : a.size < k) : spec_l02Map.f k a = some (tmap (-1) (L a)).isSome := by
  unfold spec_l02Map.f
  exact spec_l02Map_l0 a.size k a (-1) (Nat.le_refl _) hk

end Go.Proofs.YtcamchdenjpmhaaDoor.Pure
namespace Go.Proofs.YtcamchdenjpmhaaDoor.Pure
open Go.RowKit Go.Proofs.YtcamchdenjpmhaaDoor.F Go.Proofs.YtcamchdenjpmhaaDoor.Base Go.Proofs.YtcamchdenjpmhaaDoorW.PrintWords Go.Proofs.YtcamchdenjpmhaaDoorW.PrintLast Go.Proofs.YtcamchdenjpmhaaDoorW.PrintMore
set_option linter.unusedVariables false
set_option linter.unusedSimpArgs false
-- base: BaseData
theorem spec_l02NameAt_l0 (x : ByteArray) (hx : x.size ≤ 1000000000) : ∀ (d p k : Nat), x.size ≤ p + d → p ≤ x.size + 64 → 2 * d + 2 ≤ k → spec_l02NameAt.l0 k x (p : Int) = some (B ((L x).take (nmP (L x) d p))) := by
  intro d
  induction d with
  | zero =>
    intro p k h1 h2 hk
    obtain ⟨k, rfl⟩ : ∃ m, k = m + 1 + 1 := ⟨k - 2, by omega⟩
    rw [spec_l02NameAt.l0, if_neg (by omega), spec_l02NameAt.j1, if_neg (by decide)]
    rfl
  | succ d ih =>
    intro p k h1 h2 hk
    obtain ⟨k, rfl⟩ : ∃ m, k = m + 1 + 1 := ⟨k - 2, by omega⟩
    rw [spec_l02NameAt.l0]
    by_cases hp : p < x.size
    · rw [if_pos (by omega), spec_l02NameAt.j1]
      by_cases h255 : p < 255
      · have hl : p < (L x).length := by rw [← size_L]; exact hp
        have hc := byte_le (L x)[p]
        have hpi : (p : Int) < 255 := by omega
        rw [if_pos (decide_eq_true hpi), if_pos (by omega), if_pos (by omega), bt_get hl, nmP, drop_at hl]
        generalize (L x)[p] = c at *
        rw [w64 (x := (c.toNat : Int)) (by omega) (by omega)]
        simp only
        by_cases h0 : c.toNat = 0
        · rw [if_pos (by omega), if_pos h0, w64 (by omega) (by omega), if_pos (by omega), if_pos (by omega), if_neg (by omega)]
          congr 1
          apply L_inj
          rw [L_extract, L_B]
          simp
        · rw [if_neg (by omega), if_neg h0]
          by_cases h63 : 63 < c.toNat
          · rw [if_pos (by omega), if_pos h63]; rfl
          · rw [if_neg (by omega), if_neg h63, w64 (x := (p : Int) + (c.toNat : Int)) (by omega) (by omega), w64 (by omega) (by omega)]
            have := ih (p + 1 + c.toNat) k (by omega) (by omega) (by omega)
            rw [← this]
            congr 1
            omega
      · have hpi : ¬ (p : Int) < 255 := by omega
        rw [decide_eq_false hpi, if_neg (by decide), nmP_big _ _ _ (by omega)]
        rfl
    · rw [if_neg (by omega), spec_l02NameAt.j1, if_neg (by decide), nmP, List.drop_of_length_le (by rw [← size_L]; omega)]
      rfl
theorem spec_l02NameAt_eq (x : ByteArray) (hx : x.size ≤ 1000000000) (k : Nat) (hk : 2 * x.size + 4 ≤ k) : spec_l02NameAt.f k x = some (B ((L x).take (nm (L x)))) := by
  unfold spec_l02NameAt.f nm
  rw [← size_L]
  exact spec_l02NameAt_l0 x hx (x.size + 1) 0 k (by omega) (by omega) (by omega)

end Go.Proofs.YtcamchdenjpmhaaDoor.Pure
namespace Go.Proofs.YtcamchdenjpmhaaDoor.Pure
open Go.RowKit Go.Proofs.YtcamchdenjpmhaaDoor.F Go.Proofs.YtcamchdenjpmhaaDoor.Base Go.Proofs.YtcamchdenjpmhaaDoorW.PrintWords Go.Proofs.YtcamchdenjpmhaaDoorW.PrintLast Go.Proofs.YtcamchdenjpmhaaDoorW.PrintMore
set_option linter.unusedVariables false
set_option linter.unusedSimpArgs false
-- base: BaseData
theorem spec_l02Text_eq (x : ByteArray) (hx : x.size ≤ 1000000000) : spec_l02Text.f x = some (B ((L x).take (tx (L x)))) := by
  unfold spec_l02Text.f
  have hs := size_L x
  cases h : L x with
  | nil => rw [if_pos ((toList_nil x).2 h)]; rfl
  | cons c r =>
    rw [h] at hs
    have hc := byte_le c
    simp only [List.length_cons] at hs
    rw [if_neg (fun e => by rw [toList_nil, h] at e; cases e), if_pos (by omega), bt_cons h, w64 (x := (c.toNat : Int)) (by omega) (by omega), w64 (by omega) (by omega), tx]
    by_cases h1 : r.length < c.toNat
    · rw [if_pos (by omega), if_pos h1]; rfl
    · rw [if_neg (by omega), if_neg h1, if_pos (by omega), if_pos (by omega)]
      congr 1
      apply L_inj
      rw [L_extract, L_B, h]
      simp

end Go.Proofs.YtcamchdenjpmhaaDoor.Pure
namespace Go.Proofs.YtcamchdenjpmhaaDoor.Pure
open Go.RowKit Go.Proofs.YtcamchdenjpmhaaDoor.F Go.Proofs.YtcamchdenjpmhaaDoor.Base Go.Proofs.YtcamchdenjpmhaaDoorW.PrintWords Go.Proofs.YtcamchdenjpmhaaDoorW.PrintLast Go.Proofs.YtcamchdenjpmhaaDoorW.PrintMore
set_option linter.unusedVariables false
set_option linter.unusedSimpArgs false
-- base: BaseForm
theorem spec_l02Alnum_is (c : UInt8) : spec_l02Alnum.f (c.toNat : Int) = some (alnum c) := by
  have h : ∀ n : Fin 256, spec_l02Alnum.f (n.val : Int) = some ((decide (48 ≤ n.val) && decide (n.val ≤ 57)) || ((decide (97 ≤ n.val) && decide (n.val ≤ 122)) || (decide (65 ≤ n.val) && decide (n.val ≤ 90)))) := by decide +kernel
  exact h ⟨c.toNat, c.toNat_lt⟩
theorem spec_l02Parts_tag (K : Nat) : ∀ l : List UInt8, spec_l02Parts.tag K (l.map fun c => (c.toNat : Int)) = some (l.all alnum) := by
  intro l
  induction l with
  | nil => rfl
  | cons c r ih =>
    rw [List.map_cons, spec_l02Parts.tag, spec_l02Alnum_is, Option.bind_some, List.all_cons]
    cases alnum c
    · rfl
    · rw [if_pos rfl, ih]; rfl
/-- The texts that stand at the beginning, as many as there are: how many bytes. -/
def runs : Nat → List UInt8 → Nat
  | 0, _ => 0
  | d + 1, l => if tx l = 0 then 0 else tx l + runs d (l.drop (tx l))
theorem runs_le : ∀ (d : Nat) (l : List UInt8), runs d l ≤ l.length := by
  intro d
  induction d with
  | zero => intro l; exact Nat.zero_le _
  | succ d ih =>
    intro l
    rw [runs]
    split
    · exact Nat.zero_le _
    · have := ih (l.drop (tx l))
      have h := tx_le l
      rw [List.length_drop] at this
      omega
theorem spec_l02Parts_run (d : ByteArray) (hd : d.size ≤ 65535) : ∀ (n k : Nat) (p : ByteArray) (q : Nat), L p = (L d).take q → q ≤ d.size → d.size ≤ q + n → n + 1 ≤ k →
    spec_l02Parts.run k d p = some (B ((L d).take (q + runs n ((L d).drop q)))) := by
  have hs := size_L d
  intro n
  induction n with
  | zero =>
    intro k p q hp hq hn hk
    obtain ⟨k, rfl⟩ : ∃ m, k = m + 1 := ⟨k - 1, by omega⟩
    have hps : p.size = q := by rw [size_L, hp, List.length_take]; omega
    have hx : L (d.extract p.size d.size) = [] := by rw [L_extract, hps, List.drop_of_length_le (by omega)]; simp
    rw [spec_l02Parts.run, if_neg (by omega), spec_l02Text_eq _ (by rw [size_L, hx]; decide), Option.bind_some, hx, if_pos (by rw [size_L, L_B]; rfl)]
    congr 1
    apply L_inj
    rw [L_B, hp]
    rfl
  | succ n ih =>
    intro k p q hp hq hn hk
    obtain ⟨k, rfl⟩ : ∃ m, k = m + 1 := ⟨k - 1, by omega⟩
    have hps : p.size = q := by rw [size_L, hp, List.length_take]; omega
    have hx : L (d.extract p.size d.size) = (L d).drop q := by rw [L_extract, hps, List.take_of_length_le (by rw [List.length_drop]; omega)]
    have hxl : ((L d).drop q).length = d.size - q := by rw [List.length_drop]; omega
    have ht := tx_le ((L d).drop q)
    rw [spec_l02Parts.run, if_neg (by omega), spec_l02Text_eq _ (by rw [size_L, hx]; omega), Option.bind_some, hx, runs]
    have hsz : (B (((L d).drop q).take (tx ((L d).drop q)))).size = tx ((L d).drop q) := by rw [size_L, L_B, List.length_take]; omega
    rw [hsz]
    by_cases h0 : tx ((L d).drop q) = 0
    · rw [if_pos h0, if_pos h0]
      congr 1
      apply L_inj
      rw [L_B, hp]
      rfl
    · rw [if_neg h0, if_neg h0, if_pos (by omega), ih k _ (q + tx ((L d).drop q)) (by rw [L_append, L_B, hp, List.take_add]) (by omega) (by omega) (by omega), List.drop_drop]
      congr 3
      omega
/-- What a letter of the reference's forms takes. -/
def scon (c : Nat) (l : List UInt8) : Option Nat :=
  if c = 110 then (if nm l = 0 then none else some (nm l)) else if c = 98 then (if l = [] then none else some 1) else if c = 116 then (if tx l = 0 then none else some (tx l))
  else if c = 115 then (if runs l.length l = 0 then none else some (runs l.length l))
  else if c = 99 then (if tx l < 2 ∨ 16 < tx l then none else if ((l.take (tx l)).drop 1).all alnum then some l.length else none)
  else if c = 109 then (if (tmap (-1) l).isSome then some l.length else none) else if c = 42 then some l.length else none
def spg : List UInt8 → List UInt8 → Bool
  | [], l => l.isEmpty
  | c :: r, l => match scon c.toNat l with | none => false | some n => spg r (l.drop n)
def sletters (l : List UInt8) : Prop := ∀ c ∈ l, c.toNat ∈ [110, 98, 116, 115, 99, 109, 42]
theorem spec_l02Parts_pre (K : Nat) (hK : 450000000 ≤ K) (c : UInt8) (hc : c.toNat ∈ [110, 98, 116, 115, 99, 109, 42]) (d : ByteArray) (hd : d.size ≤ 65535) :
    ∃ o, spec_l02Parts.pre K (c.toNat : Int) d = some o ∧ (match o with
      | none => scon c.toNat (L d) = none
      | some p => p.size ≤ d.size ∧ L p = (L d).take p.size ∧ scon c.toNat (L d) = if p.size = 0 ∧ (c.toNat : Int) ≠ 109 ∧ (c.toNat : Int) ≠ 42 then none else some p.size) := by
  have hs := size_L d
  generalize hl : L d = l at *
  have h1 := nm_le l
  have h2 := tx_le l
  have hts : ∀ n, n ≤ l.length → (B (l.take n)).size = n := fun n hn => by rw [size_L, L_B, List.length_take]; omega
  simp only [List.mem_cons, List.not_mem_nil, or_false] at hc
  rcases hc with h | h | h | h | h | h | h <;> rw [h]
  · have e1 : spec_l02Parts.pre K ((110 : Nat) : Int) d = (spec_l02NameAt.f K d).bind fun p => some (some p) := by unfold spec_l02Parts.pre; simp
    have e2 : scon 110 l = if nm l = 0 then none else some (nm l) := by unfold scon; simp
    rw [e1, e2, spec_l02NameAt_eq d (by omega) K (by omega), Option.bind_some, hl]
    refine ⟨_, rfl, by rw [hts _ h1]; omega, by rw [L_B, hts _ h1], ?_⟩
    rw [hts _ h1]
    by_cases h0 : nm l = 0
    · rw [if_pos h0, if_pos ⟨h0, by decide, by decide⟩]
    · rw [if_neg h0, if_neg (fun e => h0 e.1)]
  · have e1 : spec_l02Parts.pre K ((98 : Nat) : Int) d = some (some (if d.size = 0 then ⟨#[]⟩ else d.extract 0 1)) := by unfold spec_l02Parts.pre; simp
    have e2 : scon 98 l = if l = [] then none else some 1 := by unfold scon; simp
    rw [e1, e2]
    by_cases h0 : d.size = 0
    · have h3 : l = [] := List.eq_nil_of_length_eq_zero (by omega)
      rw [if_pos h0, if_pos h3]
      exact ⟨_, rfl, by show (0 : Nat) ≤ _; omega, rfl, by rw [if_pos ⟨rfl, by decide, by decide⟩]⟩
    · have h3 : ¬ l = [] := fun e => h0 (by rw [e] at hs; exact hs)
      have h4 : (d.extract 0 1).size = 1 := by rw [ByteArray.size_extract]; omega
      rw [if_neg h0, if_neg h3]
      exact ⟨_, rfl, by rw [h4]; omega, by rw [L_extract, hl, h4]; rfl, by rw [h4, if_neg (fun e => absurd e.1 (by decide))]⟩
  · have e1 : spec_l02Parts.pre K ((116 : Nat) : Int) d = (spec_l02Text.f d).bind fun p => some (some p) := by unfold spec_l02Parts.pre; simp
    have e2 : scon 116 l = if tx l = 0 then none else some (tx l) := by unfold scon; simp
    rw [e1, e2, spec_l02Text_eq d (by omega), Option.bind_some, hl]
    refine ⟨_, rfl, by rw [hts _ h2]; omega, by rw [L_B, hts _ h2], ?_⟩
    rw [hts _ h2]
    by_cases h0 : tx l = 0
    · rw [if_pos h0, if_pos ⟨h0, by decide, by decide⟩]
    · rw [if_neg h0, if_neg (fun e => h0 e.1)]
  · have e1 : spec_l02Parts.pre K ((115 : Nat) : Int) d = (spec_l02Parts.run K d ⟨#[]⟩).bind fun p => some (some p) := by unfold spec_l02Parts.pre; simp
    have e2 : scon 115 l = if runs l.length l = 0 then none else some (runs l.length l) := by unfold scon; simp
    have h3 := runs_le l.length l
    rw [e1, e2, spec_l02Parts_run d hd l.length K ⟨#[]⟩ 0 rfl (Nat.zero_le _) (by omega) (by omega), Option.bind_some, hl, List.drop_zero, Nat.zero_add]
    refine ⟨_, rfl, by rw [hts _ h3]; omega, by rw [L_B, hts _ h3], ?_⟩
    rw [hts _ h3]
    by_cases h0 : runs l.length l = 0
    · rw [if_pos h0, if_pos ⟨h0, by decide, by decide⟩]
    · rw [if_neg h0, if_neg (fun e => h0 e.1)]
  · have e1 : spec_l02Parts.pre K ((99 : Nat) : Int) d = (spec_l02Text.f d).bind fun p => if p.size < 2 then some none else if 16 < p.size then some none else (spec_l02Parts.tag K ((bytesOf p).drop 1)).bind fun b => some (if b = true then some d else none) := by unfold spec_l02Parts.pre; simp
    have e2 : scon 99 l = if tx l < 2 ∨ 16 < tx l then none else if ((l.take (tx l)).drop 1).all alnum then some l.length else none := by unfold scon; simp
    rw [e1, e2, spec_l02Text_eq d (by omega), Option.bind_some, hl, hts _ h2]
    by_cases g1 : tx l < 2
    · exact ⟨none, by rw [if_pos g1], by rw [if_pos (.inl g1)]⟩
    · by_cases g2 : 16 < tx l
      · exact ⟨none, by rw [if_neg g1, if_pos g2], by rw [if_pos (.inr g2)]⟩
      · have h4 : (bytesOf (B (l.take (tx l)))).drop 1 = ((l.take (tx l)).drop 1).map fun c => (c.toNat : Int) := by
          have h5 : bytesOf (B (l.take (tx l))) = (L (B (l.take (tx l)))).map fun c => (c.toNat : Int) := rfl
          rw [h5, L_B, List.map_drop]
        rw [if_neg g1, if_neg g2, if_neg (show ¬ (tx l < 2 ∨ 16 < tx l) by omega), h4, spec_l02Parts_tag, Option.bind_some]
        by_cases g3 : ((l.take (tx l)).drop 1).all alnum = true
        · rw [if_pos g3, if_pos g3]
          exact ⟨_, rfl, Nat.le_refl _, by rw [hl, hs, List.take_length], by rw [if_neg (fun e => by have := e.1; omega), hs]⟩
        · rw [if_neg g3, if_neg g3]
          exact ⟨none, rfl, rfl⟩
  · have e1 : spec_l02Parts.pre K ((109 : Nat) : Int) d = (spec_l02Map.f K d).bind fun b => some (if b = true then some d else none) := by unfold spec_l02Parts.pre; simp
    have e2 : scon 109 l = if (tmap (-1) l).isSome then some l.length else none := by unfold scon; simp
    rw [e1, e2, spec_l02Map_eq d K (by omega), Option.bind_some, hl]
    cases tmap (-1) l with
    | none => exact ⟨none, rfl, rfl⟩
    | some ts => exact ⟨some d, rfl, Nat.le_refl _, by rw [hl, hs, List.take_length], by rw [if_pos (show (some ts).isSome = true from rfl), hs, if_neg (fun e => e.2.1 rfl)]⟩
  · have e1 : spec_l02Parts.pre K ((42 : Nat) : Int) d = some (some d) := by unfold spec_l02Parts.pre; simp
    have e2 : scon 42 l = some l.length := by unfold scon; simp
    rw [e1, e2]
    exact ⟨_, rfl, Nat.le_refl _, by rw [hl, hs, List.take_length], by rw [if_neg (fun e => e.2.2 rfl), hs]⟩
/-- The parts of data, by the reference's forms. -/
def sparts : List UInt8 → List UInt8 → List (List UInt8)
  | [], _ => []
  | c :: r, l => match scon c.toNat l with | none => [] | some n => l.take n :: sparts r (l.drop n)
/-- The stretches that the names take, by the reference's forms. -/
def ssp : List UInt8 → Nat → List UInt8 → List (Nat × Nat)
  | [], _, _ => []
  | c :: r, p, l => match scon c.toNat l with
    | none => []
    | some n => (if c.toNat = 110 then [(p, p + n)] else []) ++ ssp r (p + n) (l.drop n)
theorem spec_l02Parts_go (K : Nat) (hK : 450000000 ≤ K) : ∀ (r : List UInt8) (d : ByteArray) (out : List ByteArray), sletters r → d.size ≤ 65535 → out.length + r.length ≤ 1000 → ∃ out', spec_l02Parts.go K r d out = some (out', spg r (L d)) ∧ (spg r (L d) = true → out' = out ++ (sparts r (L d)).map B) := by
  intro r
  induction r with
  | nil =>
    intro d out _ _ _
    exact ⟨out, by rw [spec_l02Parts.go, spg, toL], fun _ => by simp [sparts]⟩
  | cons c r ih =>
    intro d out hr hd ho
    obtain ⟨o, h1, h2⟩ := spec_l02Parts_pre K hK c (hr c (by simp)) d hd
    simp only [List.length_cons] at ho
    rw [spec_l02Parts.go, h1, Option.bind_some, spg, sparts]
    cases o with
    | none =>
      simp only at h2
      rw [h2]
      exact ⟨[], rfl, fun e => by cases e⟩
    | some p =>
      simp only at h2
      obtain ⟨h3, hp, h4⟩ := h2
      rw [h4]
      simp only
      by_cases h5 : p.size = 0 ∧ (c.toNat : Int) ≠ 109 ∧ (c.toNat : Int) ≠ 42
      · rw [if_pos h5, if_pos h5]
        exact ⟨[], rfl, fun e => by cases e⟩
      · rw [if_neg h5, if_neg h5, if_neg (by omega), if_neg (by omega)]
        have hx : L (d.extract p.size d.size) = (L d).drop p.size := by rw [L_extract, List.take_of_length_le (by rw [List.length_drop, ← size_L]; exact Nat.le_refl _)]
        obtain ⟨out', h6, h7⟩ := ih (d.extract p.size d.size) (out ++ [p]) (fun x hx => hr x (by simp [hx])) (by rw [size_L, hx, List.length_drop, ← size_L]; omega) (by simp; omega)
        refine ⟨out', by rw [h6, hx], fun e => ?_⟩
        rw [hx] at h7
        rw [h7 e, List.append_assoc]
        simp only [List.map_cons, List.singleton_append]
        congr 2
        apply L_inj
        rw [L_B]
        exact hp
theorem exact_runs : ∀ (d : Nat) (l : List UInt8), l.length ≤ d → (exact d l = true ↔ runs d l = l.length) := by
  intro d
  induction d with
  | zero =>
    intro l h
    obtain rfl : l = [] := List.eq_nil_of_length_eq_zero (by omega)
    exact ⟨fun _ => rfl, fun _ => rfl⟩
  | succ d ih =>
    intro l h
    cases l with
    | nil => exact ⟨fun _ => by rw [runs, if_pos (by rfl)]; rfl, fun _ => rfl⟩
    | cons c r =>
      simp only [List.length_cons] at h
      rw [exact, runs, tx]
      by_cases h1 : r.length < c.toNat
      · rw [if_pos h1, if_pos h1, if_pos rfl]
        simp
      · rw [if_neg h1, if_neg h1, if_neg (by omega), List.drop_succ_cons, ih (r.drop c.toNat) (by rw [List.length_drop]; omega), List.length_drop, List.length_cons]
        omega
theorem spg_nil (l : List UInt8) : spg [] l = l.isEmpty := rfl
theorem pg_1 (r l : List UInt8) : pg (49 :: r) l = if l.length < 1 then false else pg r (l.drop 1) := by
  rw [pg]; show (match (if l.length < 1 then none else some 1) with | none => false | some n => pg r (l.drop n)) = _
  cases l <;> simp
theorem pg_2 (r l : List UInt8) : pg (50 :: r) l = if l.length < 2 then false else pg r (l.drop 2) := by
  rw [pg]; show (match (if l.length < 2 then none else some 2) with | none => false | some n => pg r (l.drop n)) = _; split <;> rename_i h <;> split at h <;> simp_all
theorem pg_4 (r l : List UInt8) : pg (52 :: r) l = if l.length < 4 then false else pg r (l.drop 4) := by
  rw [pg]; show (match (if l.length < 4 then none else some 4) with | none => false | some n => pg r (l.drop n)) = _; split <;> rename_i h <;> split at h <;> simp_all
theorem pg_g (r l : List UInt8) : pg (103 :: r) l = if l.length < 4 then false else pg r (l.drop 4) := by
  rw [pg]; show (match (if l.length < 4 then none else some 4) with | none => false | some n => pg r (l.drop n)) = _; split <;> rename_i h <;> split at h <;> simp_all
theorem pg_q (r l : List UInt8) : pg (113 :: r) l = if l.length < 4 then false else pg r (l.drop 4) := by
  rw [pg]; show (match (if l.length < 4 then none else some 4) with | none => false | some n => pg r (l.drop n)) = _; split <;> rename_i h <;> split at h <;> simp_all
theorem pg_n (r l : List UInt8) : pg (110 :: r) l = if nm l = 0 then false else pg r (l.drop (nm l)) := by
  rw [pg]; show (match (if nm l = 0 then none else some (nm l)) with | none => false | some n => pg r (l.drop n)) = _; split <;> rename_i h <;> split at h <;> simp_all
theorem pg_t (r l : List UInt8) : pg (116 :: r) l = if tx l = 0 then false else pg r (l.drop (tx l)) := by
  rw [pg]; show (match (if tx l = 0 then none else some (tx l)) with | none => false | some n => pg r (l.drop n)) = _; split <;> rename_i h <;> split at h <;> simp_all
theorem spg_n (r l : List UInt8) : spg (110 :: r) l = if nm l = 0 then false else spg r (l.drop (nm l)) := by
  rw [spg]; show (match (if nm l = 0 then none else some (nm l)) with | none => false | some n => spg r (l.drop n)) = _; split <;> rename_i h <;> split at h <;> simp_all
theorem spg_t (r l : List UInt8) : spg (116 :: r) l = if tx l = 0 then false else spg r (l.drop (tx l)) := by
  rw [spg]; show (match (if tx l = 0 then none else some (tx l)) with | none => false | some n => spg r (l.drop n)) = _; split <;> rename_i h <;> split at h <;> simp_all
theorem spg_b (r l : List UInt8) : spg (98 :: r) l = if l.length < 1 then false else spg r (l.drop 1) := by
  rw [spg]; show (match (if l = [] then none else some 1) with | none => false | some n => spg r (l.drop n)) = _
  cases l <;> simp
theorem spg_bb (r l : List UInt8) : spg (98 :: 98 :: r) l = if l.length < 2 then false else spg r (l.drop 2) := by
  rw [spg_b, spg_b, List.length_drop, List.drop_drop]
  by_cases h : l.length < 2
  · rw [if_pos h]
    split
    · rfl
    · rw [if_pos (by omega)]
  · rw [if_neg h, if_neg (by omega), if_neg (by omega)]
theorem spg_b4 (r l : List UInt8) : spg (98 :: 98 :: 98 :: 98 :: r) l = if l.length < 4 then false else spg r (l.drop 4) := by
  rw [spg_bb, spg_bb, List.length_drop, List.drop_drop]
  by_cases h : l.length < 4
  · rw [if_pos h]
    split
    · rfl
    · rw [if_pos (by omega)]
  · rw [if_neg h, if_neg (by omega), if_neg (by omega)]

end Go.Proofs.YtcamchdenjpmhaaDoor.Pure
namespace Go.Proofs.YtcamchdenjpmhaaDoor.Pure
open Go.RowKit Go.Proofs.YtcamchdenjpmhaaDoor.F Go.Proofs.YtcamchdenjpmhaaDoor.Base Go.Proofs.YtcamchdenjpmhaaDoorW.PrintWords Go.Proofs.YtcamchdenjpmhaaDoorW.PrintLast Go.Proofs.YtcamchdenjpmhaaDoorW.PrintMore
set_option linter.unusedVariables false
set_option linter.unusedSimpArgs false
-- base: BaseForm
theorem forms_T (l : List UInt8) : pg [84] l = spg [115] l := by
  have e1 : con 84 l = if l = [] then none else if exact l.length l then some l.length else none := by unfold con; simp
  have e2 : scon 115 l = if runs l.length l = 0 then none else some (runs l.length l) := by unfold scon; simp
  have h := exact_runs l.length l (Nat.le_refl _)
  have h2 := runs_le l.length l
  rw [pg, spg]
  show (match con 84 l with | none => false | some n => pg [] (l.drop n)) = (match scon 115 l with | none => false | some n => spg [] (l.drop n))
  rw [e1, e2]
  by_cases hn : l = []
  · subst hn; rfl
  · have h0 : l.length ≠ 0 := fun e => hn (List.eq_nil_of_length_eq_zero e)
    rw [if_neg hn]
    by_cases hx : exact l.length l = true
    · have h3 := h.1 hx
      rw [if_pos hx, if_neg (by omega), h3]
      rfl
    · have h3 : runs l.length l ≠ l.length := fun e => hx (h.2 e)
      rw [if_neg hx]
      by_cases h4 : runs l.length l = 0
      · rw [if_pos h4]
      · rw [if_neg h4]
        show false = (l.drop (runs l.length l)).isEmpty
        symm
        rw [Bool.eq_false_iff]
        intro e
        rw [List.isEmpty_iff, List.drop_eq_nil_iff] at e
        omega
theorem forms_c (l : List UInt8) : pg [99, 42] l = spg [99] l := by
  have e1 : con 99 l = if tx l < 2 ∨ 16 < tx l then none else if ((l.take (tx l)).drop 1).all alnum then some (tx l) else none := by unfold con; simp
  have e2 : scon 99 l = if tx l < 2 ∨ 16 < tx l then none else if ((l.take (tx l)).drop 1).all alnum then some l.length else none := by unfold scon; simp
  have e3 : ∀ x : List UInt8, pg [42] x = true := fun x => by
    have : con 42 x = some x.length := by unfold con; simp
    rw [pg]
    show (match con 42 x with | none => false | some n => pg [] (x.drop n)) = true
    rw [this]
    simp [pg]
  rw [pg, spg]
  show (match con 99 l with | none => false | some n => pg [42] (l.drop n)) = (match scon 99 l with | none => false | some n => spg [] (l.drop n))
  rw [e1, e2]
  by_cases h1 : tx l < 2 ∨ 16 < tx l
  · rw [if_pos h1, if_pos h1]
  · rw [if_neg h1, if_neg h1]
    by_cases h2 : ((l.take (tx l)).drop 1).all alnum = true
    · rw [if_pos h2, if_pos h2]
      simp [e3, spg]
    · rw [if_neg h2, if_neg h2]
theorem forms_m (l : List UInt8) : pg [109] l = spg [109] l := by
  have e1 : con 109 l = if (tmap (-1) l).isSome then some l.length else none := by unfold con; simp
  have e2 : scon 109 l = if (tmap (-1) l).isSome then some l.length else none := by unfold scon; simp
  rw [pg, spg]
  show (match con 109 l with | none => false | some n => pg [] (l.drop n)) = (match scon 109 l with | none => false | some n => spg [] (l.drop n))
  rw [e1, e2]
  rfl
theorem forms_star (l : List UInt8) : spg [42] l = true := by
  have : scon 42 l = some l.length := by unfold scon; simp
  rw [spg]
  show (match scon 42 l with | none => false | some n => spg [] (l.drop n)) = true
  rw [this]
  simp [spg]
/-- The two forms of a type tell the same data. -/
theorem forms_same (t : Int) (l : List UInt8) : (match formOf t with | none => true | some f => pg f.data.toList l) = spg (sform t) l := by
  by_cases c1 : t = 1
  · subst c1; show pg [52] l = spg [98, 98, 98, 98] l; rw [pg_4, spg_b4]; rfl
  by_cases c2 : t = 2
  · subst c2; show pg [110] l = spg [110] l; rw [pg_n, spg_n]; rfl
  by_cases c5 : t = 5
  · subst c5; show pg [110] l = spg [110] l; rw [pg_n, spg_n]; rfl
  by_cases c6 : t = 6
  · subst c6; show pg [110, 110, 103, 103, 103, 103, 113] l = spg [110, 110, 98, 98, 98, 98, 98, 98, 98, 98, 98, 98, 98, 98, 98, 98, 98, 98, 98, 98, 98, 98] l; rw [pg_n, pg_n, pg_g, pg_g, pg_g, pg_g, pg_q, spg_n, spg_n, spg_b4, spg_b4, spg_b4, spg_b4, spg_b4]; rfl
  by_cases c12 : t = 12
  · subst c12; show pg [110] l = spg [110] l; rw [pg_n, spg_n]; rfl
  by_cases c13 : t = 13
  · subst c13; show pg [116, 116] l = spg [116, 116] l; rw [pg_t, pg_t, spg_t, spg_t]; rfl
  by_cases c15 : t = 15
  · subst c15; show pg [50, 110] l = spg [98, 98, 110] l; rw [pg_2, pg_n, spg_bb, spg_n]; rfl
  by_cases c16 : t = 16
  · subst c16; exact forms_T l
  by_cases c28 : t = 28
  · subst c28; show pg [103, 103, 103, 103] l = spg [98, 98, 98, 98, 98, 98, 98, 98, 98, 98, 98, 98, 98, 98, 98, 98] l; rw [pg_g, pg_g, pg_g, pg_g, spg_b4, spg_b4, spg_b4, spg_b4]; rfl
  by_cases c33 : t = 33
  · subst c33; show pg [50, 50, 50, 110] l = spg [98, 98, 98, 98, 98, 98, 110] l; rw [pg_2, pg_2, pg_2, pg_n, spg_bb, spg_bb, spg_bb, spg_n]; rfl
  by_cases c35 : t = 35
  · subst c35; show pg [50, 50, 116, 116, 116, 110] l = spg [98, 98, 98, 98, 116, 116, 116, 110] l; rw [pg_2, pg_2, pg_t, pg_t, pg_t, pg_n, spg_bb, spg_bb, spg_t, spg_t, spg_t, spg_n]; rfl
  by_cases c39 : t = 39
  · subst c39; show pg [110] l = spg [110] l; rw [pg_n, spg_n]; rfl
  by_cases c47 : t = 47
  · subst c47; show pg [110, 109] l = spg [110, 109] l; rw [pg_n, spg_n, forms_m]
  by_cases c257 : t = 257
  · subst c257; show pg [49, 99, 42] l = spg [98, 99] l; rw [pg_1, spg_b, forms_c]
  have e1 : formOf t = none := by
    unfold formOf
    simp only [if_neg c1, if_neg c2, if_neg c5, if_neg c6, if_neg c12, if_neg c13, if_neg c15, if_neg c16, if_neg c28, if_neg c33, if_neg c35, if_neg c39, if_neg c47, if_neg c257]
  have e2 : sform t = [42] := by
    unfold sform
    rw [if_neg c1, if_neg (show ¬ (t = 2 ∨ t = 5 ∨ t = 12 ∨ t = 39) by omega)]
    simp only [if_neg c6, if_neg c13, if_neg c15, if_neg c16, if_neg c28, if_neg c33, if_neg c35, if_neg c47, if_neg c257]
  rw [e1, e2, forms_star]
theorem letters_of {t : Int} {f : ByteArray} (h : formOf t = some f) : letters f.data.toList := by
  unfold formOf at h
  by_cases c1 : t = 1
  · rw [if_pos c1] at h
    obtain rfl := Option.some.inj h
    unfold letters
    decide
  rw [if_neg c1] at h
  by_cases c2 : t = 2
  · rw [if_pos c2] at h
    obtain rfl := Option.some.inj h
    unfold letters
    decide
  rw [if_neg c2] at h
  by_cases c5 : t = 5
  · rw [if_pos c5] at h
    obtain rfl := Option.some.inj h
    unfold letters
    decide
  rw [if_neg c5] at h
  by_cases c6 : t = 6
  · rw [if_pos c6] at h
    obtain rfl := Option.some.inj h
    unfold letters
    decide
  rw [if_neg c6] at h
  by_cases c12 : t = 12
  · rw [if_pos c12] at h
    obtain rfl := Option.some.inj h
    unfold letters
    decide
  rw [if_neg c12] at h
  by_cases c13 : t = 13
  · rw [if_pos c13] at h
    obtain rfl := Option.some.inj h
    unfold letters
    decide
  rw [if_neg c13] at h
  by_cases c15 : t = 15
  · rw [if_pos c15] at h
    obtain rfl := Option.some.inj h
    unfold letters
    decide
  rw [if_neg c15] at h
  by_cases c16 : t = 16
  · rw [if_pos c16] at h
    obtain rfl := Option.some.inj h
    unfold letters
    decide
  rw [if_neg c16] at h
  by_cases c28 : t = 28
  · rw [if_pos c28] at h
    obtain rfl := Option.some.inj h
    unfold letters
    decide
  rw [if_neg c28] at h
  by_cases c33 : t = 33
  · rw [if_pos c33] at h
    obtain rfl := Option.some.inj h
    unfold letters
    decide
  rw [if_neg c33] at h
  by_cases c35 : t = 35
  · rw [if_pos c35] at h
    obtain rfl := Option.some.inj h
    unfold letters
    decide
  rw [if_neg c35] at h
  by_cases c39 : t = 39
  · rw [if_pos c39] at h
    obtain rfl := Option.some.inj h
    unfold letters
    decide
  rw [if_neg c39] at h
  by_cases c47 : t = 47
  · rw [if_pos c47] at h
    obtain rfl := Option.some.inj h
    unfold letters
    decide
  rw [if_neg c47] at h
  by_cases c257 : t = 257
  · rw [if_pos c257] at h
    obtain rfl := Option.some.inj h
    unfold letters
    decide
  rw [if_neg c257] at h
  cases h
theorem sletters_of (t : Int) : sletters (sform t) ∧ (sform t).length ≤ 100 := by
  unfold sform
  repeat' split
  all_goals exact ⟨by unfold sletters; decide, by decide⟩
theorem psp_no : ∀ (r : List UInt8) (p : Nat) (l : List UInt8), (∀ c ∈ r, c.toNat ≠ 110) → psp r p l = [] := by
  intro r
  induction r with
  | nil => intro p l _; rfl
  | cons c r ih =>
    intro p l h
    rw [psp]
    cases con c.toNat l with
    | none => rfl
    | some n =>
      simp only
      rw [if_neg (h c (by simp)), ih _ _ (fun x hx => h x (by simp [hx]))]
      rfl
theorem ssp_no : ∀ (r : List UInt8) (p : Nat) (l : List UInt8), (∀ c ∈ r, c.toNat ≠ 110) → ssp r p l = [] := by
  intro r
  induction r with
  | nil => intro p l _; rfl
  | cons c r ih =>
    intro p l h
    rw [ssp]
    cases scon c.toNat l with
    | none => rfl
    | some n =>
      simp only
      rw [if_neg (h c (by simp)), ih _ _ (fun x hx => h x (by simp [hx]))]
      rfl
theorem psp_n (r : List UInt8) (p : Nat) (l : List UInt8) : psp (110 :: r) p l = if nm l = 0 then [] else (p, p + nm l) :: psp r (p + nm l) (l.drop (nm l)) := by
  rw [psp]; show (match (if nm l = 0 then none else some (nm l)) with | none => [] | some n => (if (110 : Nat) = 110 then [(p, p + n)] else []) ++ psp r (p + n) (l.drop n)) = _
  by_cases h : nm l = 0
  · rw [if_pos h, if_pos h]
  · rw [if_neg h, if_neg h]; rfl
theorem ssp_n (r : List UInt8) (p : Nat) (l : List UInt8) : ssp (110 :: r) p l = if nm l = 0 then [] else (p, p + nm l) :: ssp r (p + nm l) (l.drop (nm l)) := by
  rw [ssp]; show (match (if nm l = 0 then none else some (nm l)) with | none => [] | some n => (if (110 : Nat) = 110 then [(p, p + n)] else []) ++ ssp r (p + n) (l.drop n)) = _
  by_cases h : nm l = 0
  · rw [if_pos h, if_pos h]
  · rw [if_neg h, if_neg h]; rfl
theorem psp_t (r : List UInt8) (p : Nat) (l : List UInt8) : psp (116 :: r) p l = if tx l = 0 then [] else psp r (p + tx l) (l.drop (tx l)) := by
  rw [psp]; show (match (if tx l = 0 then none else some (tx l)) with | none => [] | some n => (if (116 : Nat) = 110 then [(p, p + n)] else []) ++ psp r (p + n) (l.drop n)) = _
  by_cases h : tx l = 0
  · rw [if_pos h, if_pos h]
  · rw [if_neg h, if_neg h]; rfl
theorem ssp_t (r : List UInt8) (p : Nat) (l : List UInt8) : ssp (116 :: r) p l = if tx l = 0 then [] else ssp r (p + tx l) (l.drop (tx l)) := by
  rw [ssp]; show (match (if tx l = 0 then none else some (tx l)) with | none => [] | some n => (if (116 : Nat) = 110 then [(p, p + n)] else []) ++ ssp r (p + n) (l.drop n)) = _
  by_cases h : tx l = 0
  · rw [if_pos h, if_pos h]
  · rw [if_neg h, if_neg h]; rfl
theorem psp_2 (r : List UInt8) (p : Nat) (l : List UInt8) : psp (50 :: r) p l = if l.length < 2 then [] else psp r (p + 2) (l.drop 2) := by
  rw [psp]; show (match (if l.length < 2 then none else some 2) with | none => [] | some n => (if (50 : Nat) = 110 then [(p, p + n)] else []) ++ psp r (p + n) (l.drop n)) = _
  by_cases h : l.length < 2
  · rw [if_pos h, if_pos h]
  · rw [if_neg h, if_neg h]; rfl
theorem ssp_b (r : List UInt8) (p : Nat) (l : List UInt8) : ssp (98 :: r) p l = if l.length < 1 then [] else ssp r (p + 1) (l.drop 1) := by
  rw [ssp]; show (match (if l = [] then none else some 1) with | none => [] | some n => (if (98 : Nat) = 110 then [(p, p + n)] else []) ++ ssp r (p + n) (l.drop n)) = _
  cases l <;> simp
theorem ssp_bb (r : List UInt8) (p : Nat) (l : List UInt8) : ssp (98 :: 98 :: r) p l = if l.length < 2 then [] else ssp r (p + 2) (l.drop 2) := by
  rw [ssp_b, ssp_b, List.length_drop, List.drop_drop]
  by_cases h : l.length < 2
  · rw [if_pos h]
    split
    · rfl
    · rw [if_pos (by omega)]
  · rw [if_neg h, if_neg (by omega), if_neg (by omega)]
/-- The names stand at the same places by both forms of a type. -/
theorem spans_same (t : Int) (p : Nat) (l : List UInt8) : (match formOf t with | none => [] | some f => psp f.data.toList p l) = ssp (sform t) p l := by
  by_cases c1 : t = 1
  · subst c1; show psp [52] p l = ssp [98, 98, 98, 98] p l; rw [psp_no _ _ _ (by decide), ssp_no _ _ _ (by decide)]
  by_cases c2 : t = 2
  · subst c2; show psp [110] p l = ssp [110] p l; rw [psp_n, ssp_n]; rfl
  by_cases c5 : t = 5
  · subst c5; show psp [110] p l = ssp [110] p l; rw [psp_n, ssp_n]; rfl
  by_cases c6 : t = 6
  · subst c6; show psp [110, 110, 103, 103, 103, 103, 113] p l = ssp [110, 110, 98, 98, 98, 98, 98, 98, 98, 98, 98, 98, 98, 98, 98, 98, 98, 98, 98, 98, 98, 98] p l; rw [psp_n, psp_n, ssp_n, ssp_n, psp_no [103, 103, 103, 103, 113] _ _ (by decide), ssp_no [98, 98, 98, 98, 98, 98, 98, 98, 98, 98, 98, 98, 98, 98, 98, 98, 98, 98, 98, 98] _ _ (by decide)]
  by_cases c12 : t = 12
  · subst c12; show psp [110] p l = ssp [110] p l; rw [psp_n, ssp_n]; rfl
  by_cases c13 : t = 13
  · subst c13; show psp [116, 116] p l = ssp [116, 116] p l; rw [psp_no _ _ _ (by decide), ssp_no _ _ _ (by decide)]
  by_cases c15 : t = 15
  · subst c15; show psp [50, 110] p l = ssp [98, 98, 110] p l; rw [psp_2, psp_n, ssp_bb, ssp_n]; rfl
  by_cases c16 : t = 16
  · subst c16; show psp [84] p l = ssp [115] p l; rw [psp_no _ _ _ (by decide), ssp_no _ _ _ (by decide)]
  by_cases c28 : t = 28
  · subst c28; show psp [103, 103, 103, 103] p l = ssp [98, 98, 98, 98, 98, 98, 98, 98, 98, 98, 98, 98, 98, 98, 98, 98] p l; rw [psp_no _ _ _ (by decide), ssp_no _ _ _ (by decide)]
  by_cases c33 : t = 33
  · subst c33; show psp [50, 50, 50, 110] p l = ssp [98, 98, 98, 98, 98, 98, 110] p l; rw [psp_2, psp_2, psp_2, psp_n, ssp_bb, ssp_bb, ssp_bb, ssp_n]; rfl
  by_cases c35 : t = 35
  · subst c35; show psp [50, 50, 116, 116, 116, 110] p l = ssp [98, 98, 98, 98, 116, 116, 116, 110] p l; rw [psp_2, psp_2, psp_t, psp_t, psp_t, psp_n, ssp_bb, ssp_bb, ssp_t, ssp_t, ssp_t, ssp_n]; rfl
  by_cases c39 : t = 39
  · subst c39; show psp [110] p l = ssp [110] p l; rw [psp_n, ssp_n]; rfl
  by_cases c47 : t = 47
  · subst c47; show psp [110, 109] p l = ssp [110, 109] p l; rw [psp_n, ssp_n, psp_no [109] _ _ (by decide), ssp_no [109] _ _ (by decide)]
  by_cases c257 : t = 257
  · subst c257; show psp [49, 99, 42] p l = ssp [98, 99] p l; rw [psp_no _ _ _ (by decide), ssp_no _ _ _ (by decide)]
  have e1 : formOf t = none := by
    unfold formOf
    simp only [if_neg c1, if_neg c2, if_neg c5, if_neg c6, if_neg c12, if_neg c13, if_neg c15, if_neg c16, if_neg c28, if_neg c33, if_neg c35, if_neg c39, if_neg c47, if_neg c257]
  have e2 : sform t = [42] := by
    unfold sform
    rw [if_neg c1, if_neg (show ¬ (t = 2 ∨ t = 5 ∨ t = 12 ∨ t = 39) by omega)]
    simp only [if_neg c6, if_neg c13, if_neg c15, if_neg c16, if_neg c28, if_neg c33, if_neg c35, if_neg c47, if_neg c257]
  rw [e1, e2, ssp_no _ _ _ (by decide)]
/-- The stretches of names in data. -/
def nspans (t : Int) (l : List UInt8) : List (Nat × Nat) := ssp (sform t) 0 l
theorem impl_parsed_f (t : Int) (ht : (Lit.int .i64 t).wf = true) (s : ByteArray) (hs : s.size ≤ 65535) (K : Nat) (hK : 450000000 ≤ K) : ∃ sp, impl_parsed.f K t s = some (sp, spg (sform t) (L s)) ∧ (spg (sform t) (L s) = true → sp = (nspans t (L s)).map fun x => ⟨(x.1 : Int), (x.2 : Int)⟩) := by
  unfold impl_parsed.f
  rw [if_neg (by omega), if_pos ht, ← forms_same, nspans, ← spans_same]
  cases h : formOf t with
  | none => exact ⟨[], rfl, fun _ => rfl⟩
  | some f =>
    obtain ⟨sp, h1, h2⟩ := impl_parsed_go s hs K hK _ 0 [] (letters_of h) (Nat.zero_le _)
    exact ⟨sp, h1, h2⟩
theorem spec_parts_f (t : Int) (s : ByteArray) (hs : s.size ≤ 65535) (K : Nat) (hK : 450000000 ≤ K) : ∃ out, spec_l02Parts.f K (B (sform t)) s = some (out, spg (sform t) (L s)) ∧ (spg (sform t) (L s) = true → out = (sparts (sform t) (L s)).map B) := by
  obtain ⟨h1, h2⟩ := sletters_of t
  have h3 : (B (sform t)).data.toList = sform t := L_B _
  have h4 : (B (sform t)).size = (sform t).length := by rw [size_L, L_B]
  unfold spec_l02Parts.f
  rw [if_neg (by omega), h3]
  exact spec_l02Parts_go K hK _ s [] h1 hs (by simp; omega)
end Go.Proofs.YtcamchdenjpmhaaDoor.Pure
namespace Go.Proofs.YtcamchdenjpmhaaDoor.Pure
open Go.RowKit Go.Proofs.YtcamchdenjpmhaaDoor.F Go.Proofs.YtcamchdenjpmhaaDoor.Base Go.Proofs.YtcamchdenjpmhaaDoorW.PrintWords Go.Proofs.YtcamchdenjpmhaaDoorW.PrintLast Go.Proofs.YtcamchdenjpmhaaDoorW.PrintMore
set_option linter.unusedVariables false
set_option linter.unusedSimpArgs false
-- base: BaseDec
/-- The bytes of joined labels, as numbers. -/
def outN (ls : List ByteArray) : List Int := (joinL ls).map fun c => (c.toNat : Int)
theorem outN_len (ls : List ByteArray) : (outN ls).length = (joinL ls).length := by simp [outN]
theorem outN_end (ls : List ByteArray) : strOfNums (outN ls ++ [0]) = join ls := by
  apply L_inj
  rw [L_strOfNums, L_join, List.map_append, outN, List.map_map]
  congr 1
  exact (List.map_congr_left fun c _ => by simp).trans (List.map_id _)
theorem outN_snoc (b : List Int) (hb : Bytes b) (ls : List ByteArray) (p : Int) (h0 : 0 ≤ p) (h1 : 0 ≤ rd b p) (h63 : rd b p ≤ 63) (h2 : p + 1 + rd b p ≤ (b.length : Int)) : outN ls ++ ((b.take (p + 1 + rd b p).toNat).drop p.toNat) = outN (ls ++ [lab b p (rd b p)]) := by
  have hlab := lab_size b p (rd b p) h0 h1 h2
  unfold outN
  rw [joinL_snoc, List.map_append, List.map_cons]
  congr 1
  have hp : p.toNat < (b.take (p + 1 + rd b p).toNat).length := by rw [List.length_take]; omega
  rw [List.drop_eq_getElem_cons hp]
  congr 1
  · rw [List.getElem_take, UInt8.toNat_ofNat']
    have : b[p.toNat]'(by rw [List.length_take] at hp; omega) = rd b p := by
      unfold Go.Proofs.YtcamchdenjpmhaaDoorW.PrintWords.rd
      rw [List.getD_eq_getElem?_getD, List.getElem?_eq_getElem (by rw [List.length_take] at hp; omega)]
      rfl
    rw [this]
    omega
  · unfold lab
    rw [L_strOfNums, show (p + 1).toNat = p.toNat + 1 by omega, List.map_map]
    refine ((List.map_congr_left fun x hx => ?_).trans (List.map_id _)).symm
    have := hb x (List.mem_of_mem_take (List.mem_of_mem_drop hx))
    simp only [Function.comp, id, UInt8.toNat_ofNat']
    omega
theorem impl_DecodeName_l0 (b : List Int) (hb : Bytes b) (hl : b.length ≤ 1048576) : ∀ (m k f : Nat) (p start next : Int) (ls : List ByteArray), 0 ≤ p → p ≤ 1048576 → 0 ≤ start → start ≤ 1048576 → -1 ≤ next → next ≤ 1048600 → (joinL ls).length + 1 ≤ 255 → start + 255 - (joinL ls).length ≤ m → m < k → m < f → impl_DecodeName.l0 k b p start next (outN ls) = some (dn b f p start next ls) := by
  intro m
  induction m with
  | zero => intro k f p start next ls h1 h2 h3 h4 h5 h6 h7 h8; omega
  | succ m ih =>
    intro k f p start next ls h1 h2 h3 h4 h5 h6 h7 h8 hk hf
    obtain ⟨k, rfl⟩ : ∃ m, k = m + 1 := ⟨k - 1, by omega⟩
    obtain ⟨f, rfl⟩ : ∃ m, f = m + 1 := ⟨f - 1, by omega⟩
    have hr := hb.rd p
    have hll := joinL_len_ge ls
    have hol := outN_len ls
    rw [impl_DecodeName.l0, dn]
    by_cases hp : p ≥ (b.length : Int)
    · rw [if_pos hp, if_pos hp]
    · rw [if_neg hp, if_neg hp, if_pos h1, if_pos (by omega), w64 (x := rd b p) (by omega) (by omega)]
      by_cases h0 : rd b p = 0
      · rw [if_pos h0, if_pos h0, outN_end, w64 (x := p + 1) (by omega) (by omega)]
        by_cases hn : next < 0
        · rw [if_pos hn, if_pos hn, if_pos (by omega)]
        · rw [if_neg hn, if_neg hn, if_pos (by omega)]
      · rw [if_neg h0, if_neg h0]
        by_cases h63 : rd b p ≤ 63
        · rw [if_pos h63, if_neg (show ¬ rd b p ≥ 192 by omega), if_neg (show ¬ rd b p > 63 by omega), w64 (x := p + 1) (by omega) (by omega), w64 (x := p + 1 + rd b p) (by omega) (by omega)]
          by_cases hsh : p + 1 + rd b p > (b.length : Int)
          · rw [if_pos hsh, if_pos hsh]
          · have hlab := lab_size b p (rd b p) h1 (by omega) (by omega)
            have hsz := size_L (lab b p (rd b p))
            have hj : ((joinL (ls ++ [lab b p (rd b p)])).length : Int) = ((joinL ls).length : Int) + 1 + rd b p := by
              rw [joinL_snoc, List.length_append, List.length_cons]
              omega
            have hos := outN_len (ls ++ [lab b p (rd b p)])
            have hsn := outN_snoc b hb ls p h1 (by omega) h63 (by omega)
            have hjl : (joinL (ls ++ [lab b p (rd b p)])).length ≤ 400 := by omega
            have hcond : (outN ls).length + ((b.take (p + 1 + rd b p).toNat).drop p.toNat).length < 140737488355328 := by
              have h9 := congrArg List.length hsn
              rw [List.length_append] at h9
              omega
            rw [if_neg hsh, if_neg hsh, if_pos (by omega), if_pos (by omega), if_pos hcond, hsn]
            rw [Option.bind_some]
            rw [w64 (x := ((outN (ls ++ [lab b p (rd b p)])).length : Int) + 1) (by omega) (by omega)]
            by_cases hlg : ((joinL ls).length : Int) + 2 + rd b p > 255
            · rw [if_pos (by omega), if_pos hlg]
            · rw [if_neg (by omega), if_neg hlg, w64 (x := 1 + rd b p) (by omega) (by omega), w64 (by omega) (by omega), show p + (1 + rd b p) = p + 1 + rd b p by omega]
              exact ih k f (p + 1 + rd b p) start next (ls ++ [lab b p (rd b p)]) (by omega) (by omega) h3 h4 h5 h6 (by omega) (by omega) (by omega) (by omega)
        · rw [if_neg h63]
          by_cases h192 : rd b p < 192
          · rw [if_pos h192, if_neg (show ¬ rd b p ≥ 192 by omega), if_pos (show rd b p > 63 by omega)]
          · rw [if_neg h192, if_pos (show rd b p ≥ 192 by omega), w64 (x := p + 1) (by omega) (by omega)]
            by_cases hp1 : p + 1 ≥ (b.length : Int)
            · rw [if_pos hp1, if_pos hp1]
            · have hr2 := hb.rd (p + 1)
              have hoff := off_eq (rd b p) (rd b (p + 1)) (by omega) (by omega) (by omega) (by omega)
              rw [if_neg hp1, if_neg hp1, if_pos (by omega), if_pos (by omega), hoff]
              by_cases hs : (rd b p - 192) * 256 + rd b (p + 1) ≥ start
              · rw [if_pos hs, if_pos hs]
              · rw [if_neg hs, if_neg hs]
                by_cases hn : next < 0
                · rw [if_pos hn, if_pos hn, w64 (x := p + 2) (by omega) (by omega)]
                  exact ih k f _ _ _ ls (by omega) (by omega) (by omega) (by omega) (by omega) (by omega) h7 (by omega) (by omega) (by omega)
                · rw [if_neg hn, if_neg hn]
                  exact ih k f _ _ _ ls (by omega) (by omega) (by omega) (by omega) (by omega) (by omega) h7 (by omega) (by omega) (by omega)
theorem impl_DecodeName_eq (b : List Int) (hb : Bytes b) (hl : b.length ≤ 1048576) (p : Int) (k : Nat) (hk : 1050000 ≤ k) : impl_DecodeName.f k b p = some (decN b p) := by
  obtain ⟨k, rfl⟩ : ∃ m, k = m + 1 := ⟨k - 1, by omega⟩
  unfold impl_DecodeName.f decN
  by_cases h0 : p < 0
  · rw [if_pos h0, if_pos (.inl h0), impl_DecodeName.j0, if_pos rfl]
  · rw [if_neg h0]
    by_cases h1 : p > (b.length : Int)
    · rw [decide_eq_true h1, if_pos (.inr h1), impl_DecodeName.j0, if_pos rfl]
    · rw [decide_eq_false h1, if_neg (by omega), impl_DecodeName.j0, if_neg (by simp)]
      exact impl_DecodeName_l0 b hb hl (p.toNat + 255) k (b.length + 300) p p (-1) [] (by omega) (by omega) (by omega) (by omega) (by omega) (by omega) (by simp [joinL]) (by simp [joinL]; omega) (by omega) (by omega)

end Go.Proofs.YtcamchdenjpmhaaDoor.Pure
namespace Go.Proofs.YtcamchdenjpmhaaDoor.Pure
open Go.RowKit Go.Proofs.YtcamchdenjpmhaaDoor.F Go.Proofs.YtcamchdenjpmhaaDoor.Base Go.Proofs.YtcamchdenjpmhaaDoorW.PrintWords Go.Proofs.YtcamchdenjpmhaaDoorW.PrintLast Go.Proofs.YtcamchdenjpmhaaDoorW.PrintMore
set_option linter.unusedVariables false
set_option linter.unusedSimpArgs false
-- base: BaseName
theorem spec_l01Join_eq (l : List ByteArray) (hb : (joinL l).length ≤ 1000000000) : spec_l01Join.f l = some (join l) := by
  have hll := joinL_len_ge l
  have e : joinS l = joinL l := rfl
  unfold spec_l01Join.f
  rw [e, if_pos (by omega)]
  rfl

end Go.Proofs.YtcamchdenjpmhaaDoor.Pure
namespace Go.Proofs.YtcamchdenjpmhaaDoor.Pure
open Go.RowKit Go.Proofs.YtcamchdenjpmhaaDoor.F Go.Proofs.YtcamchdenjpmhaaDoor.Base Go.Proofs.YtcamchdenjpmhaaDoorW.PrintWords Go.Proofs.YtcamchdenjpmhaaDoorW.PrintLast Go.Proofs.YtcamchdenjpmhaaDoorW.PrintMore
set_option linter.unusedVariables false
set_option linter.unusedSimpArgs false
-- base: BaseDec
theorem spec_DecodeName_l0 (b : List Int) (hb : Bytes b) (hl : b.length ≤ 1048576) : ∀ (m k f : Nat) (p start next : Int) (ls : List ByteArray), 0 ≤ p → p ≤ 1048576 → 0 ≤ start → start ≤ 1048576 → -1 ≤ next → next ≤ 1048600 → (joinL ls).length + 1 ≤ 255 → start + 255 - (joinL ls).length ≤ m → m < k → m < f → spec_DecodeName.l0 k b p (b.length : Int) ls (((joinL ls).length : Int) + 1) next start = some (dn b f p start next ls) := by
  intro m
  induction m with
  | zero => intro k f p start next ls h1 h2 h3 h4 h5 h6 h7 h8; omega
  | succ m ih =>
    intro k f p start next ls h1 h2 h3 h4 h5 h6 h7 h8 hk hf
    obtain ⟨k, rfl⟩ : ∃ m, k = m + 1 := ⟨k - 1, by omega⟩
    obtain ⟨f, rfl⟩ : ∃ m, f = m + 1 := ⟨f - 1, by omega⟩
    have hr := hb.rd p
    have hll := joinL_len_ge ls
    rw [spec_DecodeName.l0, dn]
    by_cases hp : p ≥ (b.length : Int)
    · rw [if_pos hp, if_pos hp]
    · rw [if_neg hp, if_neg hp, if_pos h1, if_pos (by omega), w64 (x := rd b p) (by omega) (by omega)]
      by_cases h0 : rd b p = 0
      · rw [if_pos h0, if_pos h0, spec_l01Join_eq ls (by omega), w64 (x := p + 1) (by omega) (by omega)]
        by_cases hn : next < 0
        · rw [if_pos hn, if_pos hn]; rfl
        · rw [if_neg hn, if_neg hn]; rfl
      · rw [if_neg h0, if_neg h0]
        by_cases h192 : rd b p ≥ 192
        · rw [if_pos h192, if_pos h192, w64 (x := p + 1) (by omega) (by omega)]
          by_cases hp1 : p + 1 ≥ (b.length : Int)
          · rw [if_pos hp1, if_pos hp1]
          · have hr2 := hb.rd (p + 1)
            rw [if_neg hp1, if_neg hp1, if_pos (by omega), if_pos (by omega), w64 (x := rd b p - 192) (by omega) (by omega), w64 (x := (rd b p - 192) * 256) (by omega) (by omega), w64 (x := rd b (p + 1)) (by omega) (by omega), w64 (x := (rd b p - 192) * 256 + rd b (p + 1)) (by omega) (by omega)]
            by_cases hs : (rd b p - 192) * 256 + rd b (p + 1) ≥ start
            · rw [if_pos hs, if_pos hs]
            · rw [if_neg hs, if_neg hs]
              by_cases hn : next < 0
              · rw [if_pos hn, if_pos hn, w64 (x := p + 2) (by omega) (by omega)]
                exact ih k f _ _ _ ls (by omega) (by omega) (by omega) (by omega) (by omega) (by omega) h7 (by omega) (by omega) (by omega)
              · rw [if_neg hn, if_neg hn]
                exact ih k f _ _ _ ls (by omega) (by omega) (by omega) (by omega) (by omega) (by omega) h7 (by omega) (by omega) (by omega)
        · rw [if_neg h192, if_neg h192]
          by_cases h63 : rd b p > 63
          · rw [if_pos h63, if_pos h63]
          · rw [if_neg h63, if_neg h63, w64 (x := p + 1) (by omega) (by omega), w64 (x := p + 1 + rd b p) (by omega) (by omega)]
            by_cases hsh : p + 1 + rd b p > (b.length : Int)
            · rw [if_pos hsh, if_pos hsh]
            · rw [if_neg hsh, if_neg hsh, w64 (x := ((joinL ls).length : Int) + 1 + 1) (by omega) (by omega), w64 (x := ((joinL ls).length : Int) + 1 + 1 + rd b p) (by omega) (by omega)]
              by_cases hlg : ((joinL ls).length : Int) + 2 + rd b p > 255
              · rw [if_pos (by omega), if_pos hlg]
              · have hlab := lab_size b p (rd b p) h1 (by omega) (by omega)
                have hsz := size_L (lab b p (rd b p))
                have hj : ((joinL (ls ++ [lab b p (rd b p)])).length : Int) = ((joinL ls).length : Int) + 1 + rd b p := by
                  rw [joinL_snoc, List.length_append, List.length_cons]
                  omega
                rw [if_neg (by omega), if_neg hlg, if_pos (by omega), if_pos (by omega), if_pos (by omega), if_pos (by omega)]
                have := ih k f (p + 1 + rd b p) start next (ls ++ [lab b p (rd b p)]) (by omega) (by omega) h3 h4 h5 h6 (by omega) (by omega) (by omega) (by omega)
                rw [hj] at this
                rw [show ((joinL ls).length : Int) + 1 + 1 + rd b p = ((joinL ls).length : Int) + 1 + rd b p + 1 by omega]
                exact this
theorem spec_DecodeName_eq (b : List Int) (hb : Bytes b) (hl : b.length ≤ 1048576) (p : Int) (k : Nat) (hk : 1050000 ≤ k) : spec_DecodeName.f k b p = some (decN b p) := by
  obtain ⟨k, rfl⟩ : ∃ m, k = m + 1 := ⟨k - 1, by omega⟩
  unfold spec_DecodeName.f decN
  by_cases h0 : p < 0
  · rw [if_pos h0, if_pos (.inl h0), spec_DecodeName.j0, if_pos rfl]
  · rw [if_neg h0]
    by_cases h1 : p > (b.length : Int)
    · rw [decide_eq_true h1, if_pos (.inr h1), spec_DecodeName.j0, if_pos rfl]
    · rw [decide_eq_false h1, if_neg (by omega), spec_DecodeName.j0, if_neg (by simp)]
      have := spec_DecodeName_l0 b hb hl (p.toNat + 255) k (b.length + 300) p p (-1) [] (by omega) (by omega) (by omega) (by omega) (by omega) (by omega) (by simp [joinL]) (by simp [joinL]; omega) (by omega) (by omega)
      simpa [joinL] using this

end Go.Proofs.YtcamchdenjpmhaaDoor.Pure
namespace Go.Proofs.YtcamchdenjpmhaaDoor.Pure
open Go.RowKit Go.Proofs.YtcamchdenjpmhaaDoor.F Go.Proofs.YtcamchdenjpmhaaDoor.Base Go.Proofs.YtcamchdenjpmhaaDoorW.PrintWords Go.Proofs.YtcamchdenjpmhaaDoorW.PrintLast Go.Proofs.YtcamchdenjpmhaaDoorW.PrintMore
set_option linter.unusedVariables false
set_option linter.unusedSimpArgs false
-- base: BaseDec BaseMsg
theorem l04_bs (b : List Int) (hl : b.length ≤ 1048576) (fin : Int) (hf : fin ≤ (b.length : Int)) (form : ByteArray) (hfs : form.size ≤ 100) : ∀ (m k i : Nat) (p : Int) (out : ByteArray), form.size = i + m → (∀ j : Nat, i ≤ j → j < form.size → bt form (j : Int) = 98) → 0 ≤ p → p ≤ fin → (out.size : Int) + (fin - p) ≤ 2000000 → m < k →
    spec_l04Data.l0 k b p fin out form (i : Int) = some (if fin - p = m then (out ++ cut b p fin, 0) else (⟨#[]⟩, 7)) := by
  intro m
  induction m with
  | zero =>
    intro k i p out hs hc h0 h1 ho hk
    obtain ⟨k, rfl⟩ : ∃ g, k = g + 1 := ⟨k - 1, by omega⟩
    rw [spec_l04Data.l0, if_neg (by omega)]
    by_cases e : p = fin
    · subst e
      rw [if_pos rfl, if_pos (by omega), cut_nil, add_nil_]
    · rw [if_neg e, if_neg (by omega)]
  | succ m ih =>
    intro k i p out hs hc h0 h1 ho hk
    obtain ⟨k, rfl⟩ : ∃ g, k = g + 1 := ⟨k - 1, by omega⟩
    rw [spec_l04Data.l0, if_pos (by omega), if_pos (by omega), if_pos (hc i (Nat.le_refl _) (by omega))]
    by_cases e : p ≥ fin
    · rw [if_pos e, if_neg (by omega)]
    · have e1 : strOfNums ((b.take ((p + 1 : Int)).toNat).drop (p : Int).toNat) = cut b p (p + 1) := rfl
      have hz := cut_size b p (p + 1) h0 (by omega) (by omega)
      rw [if_neg e, if_pos h0, w64 (x := p + 1) (by omega) (by omega), if_pos (by omega), if_pos (by omega), e1, if_pos (by omega), w64 (x := (i : Int) + 1) (by omega) (by omega), show (i : Int) + 1 = ((i + 1 : Nat) : Int) by omega]
      rw [ih k (i + 1) (p + 1) (out ++ cut b p (p + 1)) (by omega) (fun j h1 h2 => hc j (by omega) h2) (by omega) (by omega) (by rw [ByteArray.size_append]; omega) (by omega)]
      by_cases e2 : fin - p = ((m + 1 : Nat) : Int)
      · rw [if_pos e2, if_pos (by omega), add_assoc_, cut_cut b p (p + 1) fin h0 (by omega) (by omega)]
      · rw [if_neg e2, if_neg (by omega)]
theorem l04_n (b : List Int) (hb : Bytes b) (hl : b.length ≤ 1048576) (fin : Int) (form : ByteArray) (hfs : form.size ≤ 100) (k i : Nat) (hk : 1050000 ≤ k) (p : Int) (out : ByteArray) (hi : i < form.size) (hc : ¬ bt form (i : Int) = 98) (h0 : 0 ≤ p) (ho : out.size ≤ 2000000) :
    spec_l04Data.l0 (k + 1) b p fin out form (i : Int) = if (decN b p).2.2 = 0 then (if (decN b p).2.1 > fin then some (⟨#[]⟩, 7) else spec_l04Data.l0 k b (decN b p).2.1 fin (out ++ (decN b p).1) form ((i + 1 : Nat) : Int)) else some (⟨#[]⟩, (decN b p).2.2) := by
  rw [spec_l04Data.l0, if_pos (by omega), if_pos (by omega), if_neg hc, spec_DecodeName_eq b hb hl p k hk, Option.bind_some]
  by_cases e : (decN b p).2.2 = 0
  · rw [if_pos e, if_pos e]
    obtain ⟨⟨ls, e1, e2⟩, _⟩ := decN_ok b hb p h0 e
    have hz := join_size ls e2
    rw [← e1] at hz
    by_cases e3 : (decN b p).2.1 > fin
    · rw [if_pos e3, if_pos e3]
    · rw [if_neg e3, if_neg e3, if_pos (by omega), w64 (x := (i : Int) + 1) (by omega) (by omega), show (i : Int) + 1 = ((i + 1 : Nat) : Int) by omega]
  · rw [if_neg e, if_neg e]
/-- Names in data: what is read from p on, in all to fin. -/
def dataN (b : List Int) (fin p : Int) (out : ByteArray) : ByteArray × Int :=
  if (decN b p).2.2 = 0 then (if (decN b p).2.1 > fin then (⟨#[]⟩, 7) else if (decN b p).2.1 = fin then (out ++ (decN b p).1, 0) else (⟨#[]⟩, 7)) else (⟨#[]⟩, (decN b p).2.2)
def dataS (b : List Int) (fin p : Int) : ByteArray × Int :=
  if (decN b p).2.2 = 0 then (if (decN b p).2.1 > fin then (⟨#[]⟩, 7) else
    if (decN b (decN b p).2.1).2.2 = 0 then (if (decN b (decN b p).2.1).2.1 > fin then (⟨#[]⟩, 7) else if fin - (decN b (decN b p).2.1).2.1 = 20 then ((decN b p).1 ++ (decN b (decN b p).2.1).1 ++ cut b (decN b (decN b p).2.1).2.1 fin, 0) else (⟨#[]⟩, 7)) else (⟨#[]⟩, (decN b (decN b p).2.1).2.2)) else (⟨#[]⟩, (decN b p).2.2)
/-- What data of a type that may have pointers is. -/
def dataP (b : List Int) (t p fin : Int) : ByteArray × Int := if t = 15 then (if fin - p < 2 then (⟨#[]⟩, 7) else dataN b fin (p + 2) (cut b p (p + 2))) else if t = 6 then dataS b fin p else dataN b fin p ⟨#[]⟩
def pointed (t : Int) : Bool := t == 2 || t == 5 || t == 6 || t == 12 || t == 15
theorem spec_l04Pointed_eq (t : Int) : spec_l04Pointed.f t = some (pointed t) := by
  unfold spec_l04Pointed.f pointed
  by_cases h2 : t = 2
  · subst h2; rfl
  by_cases h5 : t = 5
  · subst h5; rfl
  by_cases h6 : t = 6
  · subst h6; rfl
  by_cases h12 : t = 12
  · subst h12; rfl
  by_cases h15 : t = 15
  · subst h15; rfl
  rw [if_neg h2, if_neg h5, if_neg h6, if_neg h12, if_neg h15]
  simp [h2, h5, h6, h12, h15]
theorem size_decN (b : List Int) (hb : Bytes b) (p : Int) (h0 : 0 ≤ p) : (decN b p).1.size ≤ 255 := by
  by_cases e : (decN b p).2.2 = 0
  · obtain ⟨⟨ls, e1, e2⟩, _⟩ := decN_ok b hb p h0 e
    rw [e1]; exact join_size ls e2
  · rw [(decN_bad b hb p h0 e).1]; decide
theorem spec_l04Data_pointed (b : List Int) (hb : Bytes b) (hl : b.length ≤ 1048576) (t p fin : Int) (ht : pointed t = true) (h0 : 0 ≤ p) (h1 : p < fin) (hf : fin ≤ (b.length : Int)) (k : Nat) (hk : 1050100 ≤ k) : spec_l04Data.f k b t p fin = some (dataP b t p fin) := by
  unfold spec_l04Data.f
  rw [if_neg (by omega), spec_l04Pointed_eq, ht, Option.bind_some, if_pos rfl, spec_l02Form_eq t k (by omega), Option.bind_some]
  have one : ∀ (out : ByteArray) (form : ByteArray) (i : Nat) (k : Nat) (q : Int), 1050001 ≤ k → form.size = i + 1 → form.size ≤ 100 → ¬ bt form (i : Int) = 98 → 0 ≤ q → q ≤ fin → out.size ≤ 1000 → spec_l04Data.l0 k b q fin out form (i : Int) = some (dataN b fin q out) := by
    intro out form i k q hk hi hs hc hq hq2 ho
    obtain ⟨k, rfl⟩ : ∃ g, k = g + 1 := ⟨k - 1, by omega⟩
    rw [l04_n b hb hl fin form hs k i (by omega) q out (by omega) hc hq (by omega)]
    unfold dataN
    have hz := size_decN b hb q hq
    by_cases e : (decN b q).2.2 = 0
    · obtain ⟨_, j1, j2⟩ := decN_ok b hb q hq e
      rw [if_pos e, if_pos e]
      by_cases e3 : (decN b q).2.1 > fin
      · rw [if_pos e3, if_pos e3]
      · rw [if_neg e3, if_neg e3, l04_bs b hl fin hf form hs 0 k (i + 1) _ _ hi (fun j h1 h2 => by omega) (by omega) (by omega) (by rw [ByteArray.size_append]; omega) (by omega)]
        by_cases e4 : (decN b q).2.1 = fin
        · rw [if_pos e4, if_pos (by omega), e4, cut_nil, add_nil_]
        · rw [if_neg e4, if_neg (by omega)]
    · rw [if_neg e, if_neg e]
  unfold dataP
  by_cases c15 : t = 15
  · subst c15
    rw [if_pos rfl]
    obtain ⟨k, rfl⟩ : ∃ g, k = g + 2 := ⟨k - 2, by omega⟩
    have hform : B (sform 15) = B [98, 98, 110] := rfl
    rw [hform, spec_l04Data.l0, if_pos (by decide), if_pos (by decide), if_pos (by rfl), if_neg (by omega), if_pos h0, w64 (x := p + 1) (by omega) (by omega), if_pos (by omega), if_pos (by omega)]
    have e1 : strOfNums ((b.take ((p + 1 : Int)).toNat).drop (p : Int).toNat) = cut b p (p + 1) := rfl
    have hz := cut_size b p (p + 1) h0 (by omega) (by omega)
    rw [e1, nil_add, if_pos (by show (0 : Nat) + _ ≤ _; omega), show wrap64 (0 + 1) = 1 by rw [w64 (by omega) (by omega)]; rfl]
    rw [spec_l04Data.l0, if_pos (by decide), if_pos (by decide), if_pos (by rfl)]
    by_cases c2 : p + 1 ≥ fin
    · rw [if_pos c2, if_pos (by omega)]
    · have e2 : strOfNums ((b.take ((p + 1 + 1 : Int)).toNat).drop (p + 1 : Int).toNat) = cut b (p + 1) (p + 1 + 1) := rfl
      have hz2 := cut_size b (p + 1) (p + 1 + 1) (by omega) (by omega) (by omega)
      rw [if_neg c2, if_pos (by omega), w64 (x := p + 1 + 1) (by omega) (by omega), if_pos (by omega), if_pos (by omega), e2, if_pos (by omega), cut_cut b p (p + 1) (p + 1 + 1) h0 (by omega) (by omega), show wrap64 (1 + 1) = ((2 : Nat) : Int) by rw [w64 (by omega) (by omega)]; rfl, if_neg (by omega), show p + 1 + 1 = p + 2 by omega]
      have hz3 := cut_size b p (p + 2) h0 (by omega) (by omega)
      exact one (cut b p (p + 2)) (B [98, 98, 110]) 2 k (p + 2) (by omega) rfl (by decide) (by decide) (by omega) (by omega) (by omega)
  · rw [if_neg c15]
    by_cases c6 : t = 6
    · subst c6
      rw [if_pos rfl]
      obtain ⟨k, rfl⟩ : ∃ g, k = g + 2 := ⟨k - 2, by omega⟩
      have hform : B (sform 6) = B (110 :: 110 :: List.replicate 20 98) := rfl
      rw [hform]
      generalize hF : B (110 :: 110 :: List.replicate 20 98) = F
      have hFs : F.size = 22 := by rw [← hF]; rfl
      have hF0 : ¬ bt F ((0 : Nat) : Int) = 98 := by rw [← hF]; decide
      have hF1 : ¬ bt F ((1 : Nat) : Int) = 98 := by rw [← hF]; decide
      have hFb : ∀ j : Nat, 2 ≤ j → j < F.size → bt F (j : Int) = 98 := by
        intro j h1 h2
        rw [bt_L, ← hF, L_B, Int.toNat_natCast]
        obtain ⟨j, rfl⟩ : ∃ g, j = g + 2 := ⟨j - 2, by omega⟩
        have : j < 20 := by omega
        have e : (110 :: 110 :: List.replicate 20 (98 : UInt8)).getD (j + 2) 0 = 98 := by
          rw [List.getD_cons_succ, List.getD_cons_succ, List.getD_eq_getElem?_getD, List.getElem?_replicate, if_pos this]
          rfl
        rw [e]
        rfl
      rw [show (0 : Int) = ((0 : Nat) : Int) from rfl, l04_n b hb hl fin F (by omega) (k + 1) 0 (by omega) p ⟨#[]⟩ (by omega) hF0 h0 (by decide)]
      unfold dataS
      by_cases e : (decN b p).2.2 = 0
      · obtain ⟨_, j1, j2⟩ := decN_ok b hb p h0 e
        have hz := size_decN b hb p h0
        rw [if_pos e, if_pos e]
        by_cases e3 : (decN b p).2.1 > fin
        · rw [if_pos e3, if_pos e3]
        · rw [if_neg e3, if_neg e3, nil_add, l04_n b hb hl fin F (by omega) k 1 (by omega) _ _ (by omega) hF1 (by omega) (by omega)]
          by_cases e4 : (decN b (decN b p).2.1).2.2 = 0
          · obtain ⟨_, j3, j4⟩ := decN_ok b hb (decN b p).2.1 (by omega) e4
            have hz2 := size_decN b hb (decN b p).2.1 (by omega)
            rw [if_pos e4, if_pos e4]
            by_cases e5 : (decN b (decN b p).2.1).2.1 > fin
            · rw [if_pos e5, if_pos e5]
            · rw [if_neg e5, if_neg e5, l04_bs b hl fin hf F (by omega) 20 k 2 _ _ hFs hFb (by omega) (by omega) (by rw [ByteArray.size_append]; omega) (by omega)]
              by_cases e6 : fin - (decN b (decN b p).2.1).2.1 = 20
              · rw [if_pos (by omega), if_pos e6]
              · rw [if_neg (by omega), if_neg e6]
          · rw [if_neg e4, if_neg e4]
      · rw [if_neg e, if_neg e]
    · rw [if_neg c6]
      have hform : B (sform t) = B [110] := by
        unfold pointed at ht
        simp at ht
        have : t = 2 ∨ t = 5 ∨ t = 12 := by omega
        rcases this with rfl | rfl | rfl <;> rfl
      rw [hform]
      exact one ⟨#[]⟩ (B [110]) 0 k p (by omega) rfl (by decide) (by decide) h0 (by omega) (by decide)

end Go.Proofs.YtcamchdenjpmhaaDoor.Pure
namespace Go.Proofs.YtcamchdenjpmhaaDoor.Pure
open Go.RowKit Go.Proofs.YtcamchdenjpmhaaDoor.F Go.Proofs.YtcamchdenjpmhaaDoor.Base Go.Proofs.YtcamchdenjpmhaaDoorW.PrintWords Go.Proofs.YtcamchdenjpmhaaDoorW.PrintLast Go.Proofs.YtcamchdenjpmhaaDoorW.PrintMore
set_option linter.unusedVariables false
set_option linter.unusedSimpArgs false
-- base: BaseDec BaseMsg
theorem CheckData_val (t : Int) (h0 : 0 ≤ t) (h1 : t ≤ 65535) (s : ByteArray) (K : Nat) (hK : 450000001 ≤ K) : impl_CheckData.f K t s = some (if s.size ≤ 65535 ∧ spg (sform t) (L s) = true then 0 else 7) ∧ spec_CheckData.f K t s = some (if s.size ≤ 65535 ∧ spg (sform t) (L s) = true then 0 else 7) := by
  have ht : (Lit.int .i64 t).wf = true := by
    have h0 : Go.IntKind.i64.min = -9223372036854775808 := by decide
    have h1 : Go.IntKind.i64.max = 9223372036854775807 := by decide
    simp [Go.Lit.wf, h0, h1]
    omega
  obtain ⟨K, rfl⟩ : ∃ m, K = m + 1 := ⟨K - 1, by omega⟩
  have hF : ¬ (false = true) := by decide
  have hd : (decide (t > 65535)) = false := decide_eq_false (by omega)
  unfold spec_CheckData.f impl_CheckData.f
  have ht0 : ¬ t < 0 := by omega
  rw [if_neg ht0, if_neg ht0, hd]
  by_cases h : (s.size : Int) > 65535
  · rw [if_neg (show ¬ (s.size ≤ 65535 ∧ spg (sform t) (L s) = true) from fun h' => by omega)]
    exact ⟨by rw [impl_CheckData.j0, if_neg hF, if_pos h], by rw [spec_CheckData.j0, if_neg hF, if_pos h]⟩
  · rw [show spec_CheckData.j0 (K + 1) t s false = _ from by rw [spec_CheckData.j0, if_neg hF, if_neg h], show impl_CheckData.j0 (K + 1) t s false = _ from by rw [impl_CheckData.j0, if_neg hF, if_neg h]]
    obtain ⟨out, e1, _⟩ := spec_parts_f t s (by omega) K (by omega)
    obtain ⟨sp, e2, _⟩ := impl_parsed_f t ht s (by omega) K (by omega)
    rw [spec_l02Form_eq t K (by omega), Option.bind_some, e1, e2, Option.bind_some, Option.bind_some]
    cases hp : spg (sform t) (L s)
    · have e : (if s.size ≤ 65535 ∧ false = true then (0 : Int) else 7) = 7 := if_neg (fun h' => by cases h'.2)
      rw [e]
      exact ⟨rfl, rfl⟩
    · have e : (if s.size ≤ 65535 ∧ true = true then (0 : Int) else 7) = 0 := if_pos ⟨by omega, rfl⟩
      rw [e]
      exact ⟨rfl, rfl⟩
theorem take_in (b : List Int) (p n : Int) (h0 : 0 ≤ p) (hp : p ≤ 1000000) (h1 : 0 ≤ n) (hn : n ≤ 1000000) (h2 : p + n ≤ (b.length : Int)) : impl_decoder_take.f b p 0 n = some (cut b p (p + n), p + n, 0) := by
  unfold impl_decoder_take.f
  rw [if_pos ⟨h1, hn, h0, hp⟩, if_pos ⟨rfl, h2⟩]
  rfl
theorem name_in (b : List Int) (hb : Bytes b) (hl : b.length ≤ 1048576) (p : Int) (k : Nat) (hk : 1050000 ≤ k) : impl_decoder_name.f k b p 0 = some ((decN b p).1, if (decN b p).2.2 = 0 then (decN b p).2.1 else p, (decN b p).2.2) := by
  unfold impl_decoder_name.f
  rw [if_pos rfl, impl_DecodeName_eq b hb hl p k hk, Option.bind_some]
theorem impl_hasPointers_eq (t : Int) : impl_hasPointers.f t = some (pointed t) := by
  unfold impl_hasPointers.f pointed
  by_cases h2 : t = 2
  · subst h2; rfl
  by_cases h5 : t = 5
  · subst h5; rfl
  by_cases h6 : t = 6
  · subst h6; rfl
  by_cases h12 : t = 12
  · subst h12; rfl
  by_cases h15 : t = 15
  · subst h15; rfl
  rw [if_neg h2, if_neg h5, if_neg h12, if_neg h15]
  rw [show (t == 2) = false from beq_eq_false_iff_ne.mpr h2, show (t == 5) = false from beq_eq_false_iff_ne.mpr h5, show (t == 6) = false from beq_eq_false_iff_ne.mpr h6, show (t == 12) = false from beq_eq_false_iff_ne.mpr h12, show (t == 15) = false from beq_eq_false_iff_ne.mpr h15]
  rfl
/-- What is told of a record whose data ends at fin: the record, or a code and a place. -/
def recOf (o : ByteArray) (ty cl ttl fin : Int) (x : ByteArray × Int) (p : Int) : RecR := if x.2 = 0 then (o, ty, cl, ttl, x.1, fin, 0) else recZ p x.2
theorem recOf_ok (o : ByteArray) (ty cl ttl fin : Int) (d : ByteArray) (p : Int) : recOf o ty cl ttl fin (d, 0) p = (o, ty, cl, ttl, d, fin, 0) := if_pos rfl
theorem recOf_no (o : ByteArray) (ty cl ttl fin : Int) (d : ByteArray) (c p : Int) (h : c ≠ 0) : recOf o ty cl ttl fin (d, c) p = recZ p c := if_neg h
theorem len_cut (b : List Int) (i j : Int) (h0 : 0 ≤ i) (h1 : i ≤ j) (h2 : j ≤ (b.length : Int)) : (L (cut b i j)).length = (j - i).toNat := by
  have := cut_size b i j h0 h1 h2
  rw [size_L] at this
  omega
theorem spg_b20 : ∀ (n : Nat) (l : List UInt8), spg (List.replicate n 98) l = decide (l.length = n) := by
  intro n
  induction n with
  | zero => intro l; rw [List.replicate_zero, spg_nil]; cases l <;> simp
  | succ n ih =>
    intro l
    rw [List.replicate_succ, spg_b]
    cases l with
    | nil => simp
    | cons c l => simp [ih]
theorem names_pos {b : List Int} (hb : Bytes b) {p : Int} (h0 : 0 ≤ p) (h : (decN b p).2.2 = 0) (rest : List UInt8) : nm (L (decN b p).1 ++ rest) = (decN b p).1.size ∧ (decN b p).1.size ≠ 0 := by
  obtain ⟨⟨ls, e1, e2⟩, _⟩ := decN_ok b hb p h0 h
  rw [e1]
  exact ⟨nm_join ls e2 rest, by rw [size_join]; omega⟩
theorem recEnd_val (k : Nat) (hk : 450000001 ≤ k) (o : ByteArray) (ty cl ttl : Int) (h0 : 0 ≤ ty) (h1 : ty ≤ 65535) (d : ByteArray) (p : Int) : recEnd k o ty cl ttl d p 0 = some (if d.size ≤ 65535 ∧ spg (sform ty) (L d) = true then (o, ty, cl, ttl, d, p, 0) else recZ p 7) := by
  unfold recEnd
  rw [(CheckData_val ty h0 h1 d k hk).1, Option.bind_some]
  by_cases h : d.size ≤ 65535 ∧ spg (sform ty) (L d) = true
  · rw [if_pos h, if_pos rfl, if_pos h]
  · rw [if_neg h, if_neg (by decide), if_neg h]
/-- One name and what is behind it. -/
theorem tail_one (b : List Int) (hb : Bytes b) (hl : b.length ≤ 65535) (k : Nat) (hk : 450000001 ≤ k) (o : ByteArray) (ty cl ttl : Int) (h0 : 0 ≤ ty) (h1 : ty ≤ 65535) (fin p : Int) (d : ByteArray) (hd : d.size ≤ 2) (hp0 : 0 ≤ p) (hp : p ≤ fin) (hf : fin ≤ (b.length : Int)) (hsp : ∀ l : List UInt8, spg (sform ty) (L d ++ l) = spg [110] l) :
    ∃ q, ((recLoop k b fin 1 d p 0).bind fun u => if u.1 = true then (impl_decoder_take.f b u.2.2.1 u.2.2.2 (fin - u.2.2.1)).bind fun x => if u.2.1.size + x.1.size ≤ 1000000 then recEnd k o ty cl ttl (u.2.1 ++ x.1) x.2.1 x.2.2 else none else some (recZ u.2.2.1 u.2.2.2)) = some (recOf o ty cl ttl fin (dataN b fin p d) q) := by
  have hz := size_decN b hb p hp0
  rw [recLoop, name_in b hb (by omega) p k (by omega), Option.bind_some]
  dsimp only
  rw [if_pos (by omega)]
  unfold dataN
  by_cases e : (decN b p).2.2 = 0
  · obtain ⟨_, j1, j2⟩ := decN_ok b hb p hp0 e
    rw [if_pos e, if_pos e, if_pos e]
    by_cases e3 : (decN b p).2.1 > fin
    · rw [if_pos e3, if_pos e3, Option.bind_some]
      exact ⟨(decN b p).2.1, by rw [recOf_no _ _ _ _ _ _ _ _ (by decide)]; rfl⟩
    · rw [if_neg e3, if_neg e3, e]
      simp only [recLoop, Option.bind_some, if_true]
      have hz2 := cut_size b (decN b p).2.1 fin (by omega) (by omega) hf
      rw [take_in b _ _ (by omega) (by omega) (by omega) (by omega) (by omega), Option.bind_some]
      dsimp only
      rw [show (decN b p).2.1 + (fin - (decN b p).2.1) = fin by omega, ByteArray.size_append, if_pos (by omega), recEnd_val k hk o ty cl ttl h0 h1]
      have hL : L (d ++ (decN b p).1 ++ cut b (decN b p).2.1 fin) = L d ++ (L (decN b p).1 ++ L (cut b (decN b p).2.1 fin)) := by simp only [L_append, List.append_assoc]
      obtain ⟨n1, n2⟩ := names_pos hb hp0 e (L (cut b (decN b p).2.1 fin))
      have hg : spg (sform ty) (L (d ++ (decN b p).1 ++ cut b (decN b p).2.1 fin)) = (L (cut b (decN b p).2.1 fin)).isEmpty := by
        rw [hL, hsp, spg_n, n1, if_neg n2, spg_nil]
        congr 1
        rw [size_L, List.drop_left]
      rw [hg]
      by_cases e4 : (decN b p).2.1 = fin
      · rw [if_pos e4, e4, cut_nil, add_nil_]
        refine ⟨0, ?_⟩
        rw [if_pos ⟨by rw [ByteArray.size_append]; omega, rfl⟩, recOf_ok]
      · rw [if_neg e4]
        refine ⟨fin, ?_⟩
        rw [if_neg (fun h => by
          have h3 := h.2
          rw [List.isEmpty_iff] at h3
          have := len_cut b (decN b p).2.1 fin (by omega) (by omega) hf
          rw [h3] at this
          simp at this
          omega), recOf_no _ _ _ _ _ _ _ _ (by decide)]
  · rw [if_neg e, if_neg e, if_neg e, Option.bind_some]
    refine ⟨p, ?_⟩
    rw [recOf_no _ _ _ _ _ _ _ _ e]
    rfl
/-- Two names and what is behind them. -/
theorem tail_soa (b : List Int) (hb : Bytes b) (hl : b.length ≤ 65535) (k : Nat) (hk : 450000001 ≤ k) (o : ByteArray) (cl ttl fin p : Int) (hp0 : 0 ≤ p) (hp : p ≤ fin) (hf : fin ≤ (b.length : Int)) :
    ∃ q, ((recLoop k b fin 2 ⟨#[]⟩ p 0).bind fun u => if u.1 = true then (impl_decoder_take.f b u.2.2.1 u.2.2.2 (fin - u.2.2.1)).bind fun x => if u.2.1.size + x.1.size ≤ 1000000 then recEnd k o 6 cl ttl (u.2.1 ++ x.1) x.2.1 x.2.2 else none else some (recZ u.2.2.1 u.2.2.2)) = some (recOf o 6 cl ttl fin (dataS b fin p) q) := by
  have F1 := decN_ok b hb p hp0
  have F2 := size_decN b hb p hp0
  have F3 := fun rest h => names_pos hb hp0 (rest := rest) h
  have F4 := name_in b hb (by omega) p k (by omega)
  unfold dataS
  rw [recLoop, F4, Option.bind_some]
  clear F4
  generalize decN b p = x1 at *
  obtain ⟨s1, q1, c1⟩ := x1
  dsimp only at *
  have hz : (⟨#[]⟩ : ByteArray).size = 0 := rfl
  rw [hz, if_pos (by omega)]
  by_cases e : c1 = 0
  · subst e
    obtain ⟨_, j1, j2⟩ := F1 rfl
    rw [if_pos rfl, if_pos rfl, if_pos rfl]
    by_cases e3 : q1 > fin
    · rw [if_pos e3, if_pos e3, Option.bind_some]
      exact ⟨q1, by rw [recOf_no _ _ _ _ _ _ _ _ (by decide)]; rfl⟩
    · rw [if_neg e3, if_neg e3, nil_add]
      have F5 := decN_ok b hb q1 (by omega)
      have F6 := size_decN b hb q1 (by omega)
      have F7 := fun rest h => names_pos hb (p := q1) (by omega) (rest := rest) h
      have F8 := name_in b hb (by omega) q1 k (by omega)
      rw [recLoop, F8, Option.bind_some]
      clear F8
      generalize decN b q1 = x2 at *
      obtain ⟨s2, q2, c2⟩ := x2
      dsimp only at *
      rw [if_pos (by omega)]
      by_cases e4 : c2 = 0
      · subst e4
        obtain ⟨_, j3, j4⟩ := F5 rfl
        rw [if_pos rfl, if_pos rfl, if_pos rfl]
        by_cases e5 : q2 > fin
        · rw [if_pos e5, if_pos e5, Option.bind_some]
          exact ⟨q2, by rw [recOf_no _ _ _ _ _ _ _ _ (by decide)]; rfl⟩
        · rw [if_neg e5, if_neg e5]
          simp only [recLoop, Option.bind_some, if_true]
          have hz3 := cut_size b q2 fin (by omega) (by omega) hf
          have hlc := len_cut b q2 fin (by omega) (by omega) hf
          rw [take_in b _ _ (by omega) (by omega) (by omega) (by omega) (by omega), Option.bind_some]
          dsimp only
          rw [show q2 + (fin - q2) = fin by omega]
          generalize cut b q2 fin = C at *
          rw [ByteArray.size_append, if_pos (by omega), recEnd_val k hk o 6 cl ttl (by decide) (by decide)]
          have hL : L (s1 ++ s2 ++ C) = L s1 ++ (L s2 ++ L C) := by simp only [L_append, List.append_assoc]
          obtain ⟨n1, n2⟩ := F3 (L s2 ++ L C) rfl
          obtain ⟨m1, m2⟩ := F7 (L C) rfl
          have hg : spg (sform 6) (L (s1 ++ s2 ++ C)) = decide ((fin - q2).toNat = 20) := by
            rw [hL, show sform 6 = 110 :: 110 :: List.replicate 20 98 from rfl, spg_n, n1, if_neg n2, size_L, List.drop_left, spg_n, m1, if_neg m2, size_L, List.drop_left, spg_b20, hlc]
          rw [hg]
          by_cases e6 : fin - q2 = 20
          · rw [if_pos e6, if_pos ⟨by rw [ByteArray.size_append, ByteArray.size_append]; omega, decide_eq_true (by omega)⟩]
            exact ⟨0, by rw [recOf_ok]⟩
          · rw [if_neg e6, if_neg (fun h => by have := of_decide_eq_true h.2; omega)]
            exact ⟨fin, by rw [recOf_no _ _ _ _ _ _ _ _ (by decide)]⟩
      · rw [if_neg e4, if_neg e4, if_neg e4, Option.bind_some]
        refine ⟨q1, ?_⟩
        rw [recOf_no _ _ _ _ _ _ _ _ e4]
        rfl
  · rw [if_neg e, if_neg e, if_neg e, Option.bind_some]
    refine ⟨p, ?_⟩
    rw [recOf_no _ _ _ _ _ _ _ _ e]
    rfl
theorem recData_pointed (b : List Int) (hb : Bytes b) (hl : b.length ≤ 65535) (k : Nat) (hk : 450000001 ≤ k) (o : ByteArray) (ty cl ttl n p : Int) (h0 : 0 ≤ ty) (h1 : ty ≤ 65535) (ht : pointed ty = true) (hn : 0 < n) (hp0 : 0 ≤ p) (hf : p + n ≤ (b.length : Int)) :
    ∃ q, recData k b o ty cl ttl n p = some (recOf o ty cl ttl (p + n) (dataP b ty p (p + n)) q) := by
  unfold recData
  rw [impl_hasPointers_eq, ht, Option.bind_some, if_pos rfl]
  unfold dataP
  by_cases c15 : ty = 15
  · subst c15
    simp only [if_true, if_neg (show ¬ ((15 : Int) = 6) by decide)]
    by_cases c2 : (2 : Int) > n
    · rw [if_pos c2, if_pos (by omega)]
      exact ⟨p, by rw [recOf_no _ _ _ _ _ _ _ _ (by decide)]⟩
    · rw [if_neg c2, if_neg (by omega), take_in b p 2 hp0 (by omega) (by decide) (by decide) (by omega), Option.bind_some]
      have hz := cut_size b p (p + 2) hp0 (by omega) (by omega)
      refine tail_one b hb hl k hk o 15 cl ttl (by decide) (by decide) (p + n) (p + 2) (cut b p (p + 2)) (by omega) (by omega) (by omega) hf (fun l => ?_)
      have h2 : (L (cut b p (p + 2))).length = 2 := by rw [len_cut b p (p + 2) hp0 (by omega) (by omega)]; omega
      rw [show sform 15 = 98 :: 98 :: [110] from rfl, spg_bb, if_neg (by rw [List.length_append]; omega), ← h2, List.drop_left]
  · simp only [if_neg c15]
    rw [if_neg (show ¬ ((0 : Int) > n) by omega), take_in b p 0 hp0 (by omega) (by decide) (by decide) (by omega), Option.bind_some, Int.add_zero, cut_nil]
    by_cases c6 : ty = 6
    · subst c6
      simp only [if_true]
      exact tail_soa b hb hl k hk o cl ttl (p + n) p hp0 (by omega) hf
    · simp only [if_neg c6]
      have hty : ty = 2 ∨ ty = 5 ∨ ty = 12 := by
        unfold pointed at ht
        simp at ht
        omega
      exact tail_one b hb hl k hk o ty cl ttl h0 h1 (p + n) p ⟨#[]⟩ (by decide) hp0 (by omega) hf (fun l => by
        rw [show L (⟨#[]⟩ : ByteArray) ++ l = l from rfl, show sform ty = [110] from by rcases hty with rfl | rfl | rfl <;> rfl])
def isRec (x : RecR) : Prop := impl_decoder_record.f 0 [] 0 0 = some x

end Go.Proofs.YtcamchdenjpmhaaDoor.Pure
namespace Go.Proofs.YtcamchdenjpmhaaDoor.Pure
open Go.RowKit Go.Proofs.YtcamchdenjpmhaaDoor.F Go.Proofs.YtcamchdenjpmhaaDoor.Base Go.Proofs.YtcamchdenjpmhaaDoorW.PrintWords Go.Proofs.YtcamchdenjpmhaaDoorW.PrintLast Go.Proofs.YtcamchdenjpmhaaDoorW.PrintMore
set_option linter.unusedVariables false
set_option linter.unusedSimpArgs false
-- base: BaseDec
theorem impl_u16_eq {s : ByteArray} {a b : UInt8} {r : List UInt8} (h : L s = a :: b :: r) : impl_u16.f s = some ((a.toNat : Int) * 256 + b.toNat) := by
  have hs : s.size = r.length + 2 := by rw [size_L, h]; rfl
  have ha := byte_le a
  have hb := byte_le b
  unfold impl_u16.f
  rw [if_pos (by omega), if_pos (by omega), bt_cons h, bt_mid (p := [a]) h (by rfl), w64 (x := (a.toNat : Int)) (by omega) (by omega), w64 (x := (a.toNat : Int) * 256) (by omega) (by omega), w64 (x := (b.toNat : Int)) (by omega) (by omega), i64_or8 _ _ (by omega) (by omega) (by omega) (by omega) (by omega)]

end Go.Proofs.YtcamchdenjpmhaaDoor.Pure
namespace Go.Proofs.YtcamchdenjpmhaaDoor.Pure
open Go.RowKit Go.Proofs.YtcamchdenjpmhaaDoor.F Go.Proofs.YtcamchdenjpmhaaDoor.Base Go.Proofs.YtcamchdenjpmhaaDoorW.PrintWords Go.Proofs.YtcamchdenjpmhaaDoorW.PrintLast Go.Proofs.YtcamchdenjpmhaaDoorW.PrintMore
set_option linter.unusedVariables false
set_option linter.unusedSimpArgs false
-- base: BaseNum
theorem spec_l02Num_l0 (s : ByteArray) (hs : s.size ≤ 7) : ∀ (l p : List UInt8) (n : Int) (k : Nat), L s = p ++ l → 0 ≤ n → n < 256 ^ p.length → l.length < k → spec_l02Num.l0 k s n (p.length : Int) = some (num n l) := by
  intro l
  induction l with
  | nil =>
    intro p n k h h0 h1 hk
    obtain ⟨k, rfl⟩ : ∃ m, k = m + 1 := ⟨k - 1, by simp at hk; omega⟩
    have hz : s.size = p.length := by rw [size_L, h]; simp
    rw [spec_l02Num.l0, if_neg (by omega)]
    rfl
  | cons c r ih =>
    intro p n k h h0 h1 hk
    obtain ⟨k, rfl⟩ : ∃ m, k = m + 1 := ⟨k - 1, by simp at hk; omega⟩
    have hz : s.size = p.length + (r.length + 1) := by rw [size_L, h]; simp
    have hc := byte_le c
    have hp : (256 : Int) ^ p.length ≤ 281474976710656 := by
      rcases (by omega : p.length = 0 ∨ p.length = 1 ∨ p.length = 2 ∨ p.length = 3 ∨ p.length = 4 ∨ p.length = 5 ∨ p.length = 6) with e | e | e | e | e | e | e <;> rw [e] <;> decide
    rw [spec_l02Num.l0, if_pos (by omega), if_pos (by omega), bt_mid h rfl, w64 (x := n * 256) (by omega) (by omega), w64 (x := (c.toNat : Int)) (by omega) (by omega), w64 (x := n * 256 + (c.toNat : Int)) (by omega) (by omega), w64 (x := (p.length : Int) + 1) (by omega) (by omega)]
    have e : (p.length : Int) + 1 = ((p ++ [c]).length : Int) := by simp
    rw [e]
    exact ih (p ++ [c]) _ k (by rw [h]; simp) (by omega) (by rw [List.length_append, Int.pow_add]; simp only [List.length_cons, List.length_nil]; omega) (by simp at hk; omega)
theorem spec_l02Num_eq (s : ByteArray) (hs : s.size ≤ 7) (k : Nat) (hk : s.size < k) : spec_l02Num.f k s = some (num 0 (L s)) := by
  unfold spec_l02Num.f
  have := spec_l02Num_l0 s hs (L s) [] 0 k rfl (by decide) (by decide) (by rw [← size_L]; exact hk)
  simpa using this
theorem spec_l02Num_two {s : ByteArray} {a b : UInt8} (h : L s = [a, b]) (k : Nat) (hk : 3 ≤ k) : spec_l02Num.f k s = some ((a.toNat : Int) * 256 + b.toNat) := by
  have hs : s.size = 2 := by rw [size_L, h]; rfl
  rw [spec_l02Num_eq s (by omega) k (by omega), h]
  simp [num]

end Go.Proofs.YtcamchdenjpmhaaDoor.Pure
namespace Go.Proofs.YtcamchdenjpmhaaDoor.Pure
open Go.RowKit Go.Proofs.YtcamchdenjpmhaaDoor.F Go.Proofs.YtcamchdenjpmhaaDoor.Base Go.Proofs.YtcamchdenjpmhaaDoorW.PrintWords Go.Proofs.YtcamchdenjpmhaaDoorW.PrintLast Go.Proofs.YtcamchdenjpmhaaDoorW.PrintMore
set_option linter.unusedVariables false
set_option linter.unusedSimpArgs false
-- base: BaseMap
theorem spec_l04Bit_eq (n i : Int) (h0 : 0 ≤ i) (h1 : i < 64) : spec_l04Bit.f n i = some (Go.bits .and .i64 (shr .i64 n i) 1 == 1) := by
  unfold spec_l04Bit.f
  rw [wrap_u64, Int.emod_eq_of_lt h0 (by omega), if_pos h0]

end Go.Proofs.YtcamchdenjpmhaaDoor.Pure
namespace Go.Proofs.YtcamchdenjpmhaaDoor.Pure
open Go.RowKit Go.Proofs.YtcamchdenjpmhaaDoor.F Go.Proofs.YtcamchdenjpmhaaDoor.Base Go.Proofs.YtcamchdenjpmhaaDoorW.PrintWords Go.Proofs.YtcamchdenjpmhaaDoorW.PrintLast Go.Proofs.YtcamchdenjpmhaaDoorW.PrintMore
set_option linter.unusedVariables false
set_option linter.unusedSimpArgs false
-- base: BaseNum
theorem DecodeHead_both (l : List Int) : ∃ r, impl_DecodeHead.f l = some r ∧ ∀ k, 3 ≤ k → spec_DecodeHead.f k l = some r := by
  by_cases h : l.length < 12
  · refine ⟨_, by unfold impl_DecodeHead.f; rw [if_pos h], fun k _ => by unfold spec_DecodeHead.f; rw [if_pos h]⟩
  · have hl : (L (strOfNums (l.take 12))).length = 12 := by rw [L_strOfNums]; simp; omega
    generalize hs : strOfNums (l.take 12) = s at hl
    obtain ⟨c0, c1, c2, c3, c4, c5, c6, c7, c8, c9, c10, c11, e⟩ := list12 hl
    have ex : ∀ i j, L (s.extract i j) = ([c0, c1, c2, c3, c4, c5, c6, c7, c8, c9, c10, c11].drop i).take (j - i) := fun i j => by rw [L_extract, e]
    refine ⟨?r, ?h1, fun k hk => ?h2⟩
    case h1 =>
      unfold impl_DecodeHead.f
      rw [if_neg h, hs, impl_u16_eq (ex 2 12), Option.bind_some, impl_u16_eq e, Option.bind_some, impl_bit_eq _ _ (by decide), Option.bind_some, impl_bit_eq _ _ (by decide), Option.bind_some, impl_bit_eq _ _ (by decide), Option.bind_some, impl_bit_eq _ _ (by decide), Option.bind_some, impl_bit_eq _ _ (by decide), Option.bind_some, impl_bit_eq _ _ (by decide), Option.bind_some, impl_bit_eq _ _ (by decide), Option.bind_some, impl_bit_eq _ _ (by decide), Option.bind_some, impl_u16_eq (ex 4 12), Option.bind_some, impl_u16_eq (ex 6 12), Option.bind_some, impl_u16_eq (ex 8 12), Option.bind_some, impl_u16_eq (ex 10 12), Option.bind_some]
    case h2 =>
      unfold spec_DecodeHead.f
      rw [if_neg h, hs, spec_l02Num_two (ex 2 4) k hk, Option.bind_some, spec_l02Num_two (ex 0 2) k hk, Option.bind_some, spec_l04Bit_eq _ _ (by decide) (by decide), Option.bind_some, spec_l04Bit_eq _ _ (by decide) (by decide), Option.bind_some, spec_l04Bit_eq _ _ (by decide) (by decide), Option.bind_some, spec_l04Bit_eq _ _ (by decide) (by decide), Option.bind_some, spec_l04Bit_eq _ _ (by decide) (by decide), Option.bind_some, spec_l04Bit_eq _ _ (by decide) (by decide), Option.bind_some, spec_l04Bit_eq _ _ (by decide) (by decide), Option.bind_some, spec_l04Bit_eq _ _ (by decide) (by decide), Option.bind_some, spec_l02Num_two (ex 4 6) k hk, Option.bind_some, spec_l02Num_two (ex 6 8) k hk, Option.bind_some, spec_l02Num_two (ex 8 10) k hk, Option.bind_some, spec_l02Num_two (ex 10 12) k hk, Option.bind_some]

end Go.Proofs.YtcamchdenjpmhaaDoor.Pure
namespace Go.Proofs.YtcamchdenjpmhaaDoor.Pure
open Go.RowKit Go.Proofs.YtcamchdenjpmhaaDoor.F Go.Proofs.YtcamchdenjpmhaaDoor.Base Go.Proofs.YtcamchdenjpmhaaDoorW.PrintWords Go.Proofs.YtcamchdenjpmhaaDoorW.PrintLast Go.Proofs.YtcamchdenjpmhaaDoorW.PrintMore
set_option linter.unusedVariables false
set_option linter.unusedSimpArgs false
-- base: BaseDec BaseNum
theorem or_swap (x y : Int) : Go.bits .or .u32 x y = Go.bits .or .u32 y x := by
  unfold Go.bits
  simp only [BitVec.or_comm]
theorem wraps_u32 (n : Int) (h0 : 0 ≤ n) (h1 : n < 2 ^ 32) : Go.IntKind.u32.wrap n = n := by
  rw [Go.IntKind.wrap_u32]
  omega
theorem xu32_eq (a b c d : Int) (ha : 0 ≤ a ∧ a ≤ 255) (hb : 0 ≤ b ∧ b ≤ 255) (hc : 0 ≤ c ∧ c ≤ 255) (hd : 0 ≤ d ∧ d ≤ 255) : xu32 a b c d = ((a * 256 + b) * 256 + c) * 256 + d := by
  have p8 : (2 : Int) ^ 8 = 256 := by decide
  have p16 : (2 : Int) ^ 16 = 65536 := by decide
  have p24 : (2 : Int) ^ 24 = 16777216 := by decide
  have p32 : (2 : Int) ^ 32 = 4294967296 := by decide
  unfold xu32
  rw [Int.emod_eq_of_lt (a := d) (by omega) (by omega), Int.emod_eq_of_lt (a := c) (by omega) (by omega), Int.emod_eq_of_lt (a := b) (by omega) (by omega), Int.emod_eq_of_lt (a := a) (by omega) (by omega), Int.emod_eq_of_lt (a := c * 256) (by omega) (by omega), Int.emod_eq_of_lt (a := b * 65536) (by omega) (by omega), Int.emod_eq_of_lt (a := a * 16777216) (by omega) (by omega)]
  rw [or_swap d, bits_join .u32 32 (by decide) wraps_u32 8 (c * 256) d (by omega) (by rw [p8]; omega) (by rw [p32]; omega) (by omega) (by rw [p8]; omega) (by rw [p32]; omega)]
  rw [or_swap _ (b * 65536), bits_join .u32 32 (by decide) wraps_u32 16 (b * 65536) (c * 256 + d) (by omega) (by rw [p16]; omega) (by rw [p32]; omega) (by omega) (by rw [p16]; omega) (by rw [p32]; omega)]
  rw [or_swap _ (a * 16777216), bits_join .u32 32 (by decide) wraps_u32 24 (a * 16777216) (b * 65536 + (c * 256 + d)) (by omega) (by rw [p24]; omega) (by rw [p32]; omega) (by omega) (by rw [p24]; omega) (by rw [p32]; omega)]
  omega
theorem impl_u32_eq {x : ByteArray} {a b c d : UInt8} {r : List UInt8} (h : L x = a :: b :: c :: d :: r) : impl_u32.f x = some (num 0 [a, b, c, d]) := by
  have ha := byte_le a
  have hb := byte_le b
  have hc := byte_le c
  have hd := byte_le d
  have hs : x.size = r.length + 4 := by rw [size_L, h]; rfl
  unfold impl_u32.f
  rw [if_pos (by omega), bt_cons h, bt_mid (p := [a]) h (by rfl), bt_mid (p := [a, b]) h (by rfl), bt_mid (p := [a, b, c]) h (by rfl), xu32_eq _ _ _ _ (by omega) (by omega) (by omega) (by omega), w64 (by omega) (by omega)]
  have e : num 0 [a, b, c, d] = (((a.toNat : Int) * 256 + b.toNat) * 256 + c.toNat) * 256 + d.toNat := by
    show ((((0 : Int) * 256 + a.toNat) * 256 + b.toNat) * 256 + c.toNat) * 256 + d.toNat = _
    rw [Int.zero_mul, Int.zero_add]
  rw [e]

end Go.Proofs.YtcamchdenjpmhaaDoor.Pure
namespace Go.Proofs.YtcamchdenjpmhaaDoor.Pure
open Go.RowKit Go.Proofs.YtcamchdenjpmhaaDoor.F Go.Proofs.YtcamchdenjpmhaaDoor.Base Go.Proofs.YtcamchdenjpmhaaDoorW.PrintWords Go.Proofs.YtcamchdenjpmhaaDoorW.PrintLast Go.Proofs.YtcamchdenjpmhaaDoorW.PrintMore
set_option linter.unusedVariables false
set_option linter.unusedSimpArgs false
-- base: BaseDec BaseNum BaseMsg
theorem u16_some (s : ByteArray) (h : 2 ≤ s.size) : ∃ v : Int, impl_u16.f s = some v ∧ 0 ≤ v ∧ v ≤ 65535 := by
  rw [size_L] at h
  cases e : L s with
  | nil => rw [e] at h; simp at h
  | cons a r =>
    cases r with
    | nil => rw [e] at h; simp at h
    | cons c r => exact ⟨_, impl_u16_eq e, by have := byte_le a; have := byte_le c; omega, by have := byte_le a; have := byte_le c; omega⟩
theorem u32_some (s : ByteArray) (h : 4 ≤ s.size) : ∃ v : Int, impl_u32.f s = some v := by
  rw [size_L] at h
  cases e : L s with
  | nil => rw [e] at h; simp at h
  | cons a r =>
    cases r with
    | nil => rw [e] at h; simp at h
    | cons c r =>
      cases r with
      | nil => rw [e] at h; simp at h
      | cons d r =>
        cases r with
        | nil => rw [e] at h; simp at h
        | cons f r => exact ⟨_, impl_u32_eq e⟩
def zs (n : Int) : ByteArray := strOfNums (List.replicate n.toNat 0)
theorem zs2 : L (zs 2) = [0, 0] := by unfold zs; rw [L_strOfNums]; rfl
theorem zs4 : L (zs 4) = [0, 0, 0, 0] := by unfold zs; rw [L_strOfNums]; rfl
theorem u16_zs : impl_u16.f (zs 2) = some 0 := by rw [impl_u16_eq zs2]; rfl
/-- A take that may fall. -/
theorem take_any (b : List Int) (hl : b.length ≤ 65535) (p c n : Int) (h0 : 0 ≤ p) (hp : p ≤ (b.length : Int)) (h1 : 0 ≤ n) (hn : n ≤ 1000) :
    impl_decoder_take.f b p c n = some (if c = 0 ∧ p + n ≤ (b.length : Int) then (cut b p (p + n), p + n, 0) else (zs n, p, if c = 0 then 8 else c)) := by
  unfold impl_decoder_take.f
  rw [if_pos ⟨h1, by omega, h0, by omega⟩]
  by_cases h : c = 0 ∧ p + n ≤ (b.length : Int)
  · rw [if_pos h, if_pos h]; rfl
  · rw [if_neg h, if_neg h]; rfl
/-- Two bytes of a head that may not be there. -/
theorem two_any (b : List Int) (hl : b.length ≤ 65535) (p c : Int) (h0 : 0 ≤ p) (hp : p ≤ (b.length : Int)) : ∃ (s : ByteArray) (q d v : Int), impl_decoder_take.f b p c 2 = some (s, q, d) ∧ impl_u16.f s = some v ∧ 0 ≤ v ∧ v ≤ 65535 ∧ p ≤ q ∧ q ≤ (b.length : Int) ∧ (c ≠ 0 → d = c ∧ v = 0 ∧ q = p) ∧ (c = 0 → p + 2 > (b.length : Int) → d = 8 ∧ v = 0 ∧ q = p) ∧ (c = 0 → p + 2 ≤ (b.length : Int) → d = 0 ∧ q = p + 2 ∧ s = cut b p (p + 2)) := by
  rw [take_any b hl p c 2 h0 hp (by decide) (by decide)]
  by_cases h : c = 0 ∧ p + 2 ≤ (b.length : Int)
  · rw [if_pos h]
    obtain ⟨rfl, h⟩ := h
    have hz := cut_size b p (p + 2) h0 (by omega) h
    obtain ⟨v, e1, e2, e3⟩ := u16_some (cut b p (p + 2)) (by omega)
    exact ⟨_, _, _, v, rfl, e1, e2, e3, by omega, h, fun h' => absurd rfl h', fun _ h' => by omega, fun _ _ => ⟨rfl, rfl, rfl⟩⟩
  · rw [if_neg h]
    refine ⟨_, _, _, 0, rfl, u16_zs, by decide, by decide, Int.le_refl _, hp, fun h' => ⟨if_neg h', rfl, rfl⟩, fun h' _ => ⟨if_pos h', rfl, rfl⟩, fun h1 h2 => absurd ⟨h1, h2⟩ h⟩
theorem four_any (b : List Int) (hl : b.length ≤ 65535) (p c : Int) (h0 : 0 ≤ p) (hp : p ≤ (b.length : Int)) : ∃ (s : ByteArray) (q d v : Int), impl_decoder_take.f b p c 4 = some (s, q, d) ∧ impl_u32.f s = some v ∧ p ≤ q ∧ q ≤ (b.length : Int) ∧ (c ≠ 0 → d = c ∧ q = p) ∧ (c = 0 → p + 4 > (b.length : Int) → d = 8 ∧ q = p) ∧ (c = 0 → p + 4 ≤ (b.length : Int) → d = 0 ∧ q = p + 4 ∧ s = cut b p (p + 4)) := by
  rw [take_any b hl p c 4 h0 hp (by decide) (by decide)]
  by_cases h : c = 0 ∧ p + 4 ≤ (b.length : Int)
  · rw [if_pos h]
    obtain ⟨rfl, h⟩ := h
    have hz := cut_size b p (p + 4) h0 (by omega) h
    obtain ⟨v, e1⟩ := u32_some (cut b p (p + 4)) (by omega)
    exact ⟨_, _, _, v, rfl, e1, by omega, h, fun h' => absurd rfl h', fun _ h' => by omega, fun _ _ => ⟨rfl, rfl, rfl⟩⟩
  · rw [if_neg h]
    obtain ⟨v, e1⟩ := u32_some (zs 4) (by rw [size_L, zs4]; decide)
    refine ⟨_, _, _, v, rfl, e1, Int.le_refl _, hp, fun h' => ⟨if_neg h', rfl⟩, fun h' _ => ⟨if_pos h', rfl⟩, fun h1 h2 => absurd ⟨h1, h2⟩ h⟩
theorem L_sub (b : List Int) (q : Nat) (i j n : Nat) (h1 : i ≤ j) (h2 : j ≤ n) : L (cut b ((q + i : Nat) : Int) ((q + j : Nat) : Int)) = ((L (cut b (q : Int) ((q + n : Nat) : Int))).drop i).take (j - i) := by
  unfold cut
  rw [L_strOfNums, L_strOfNums, ← List.map_drop, ← List.map_take]
  simp only [Int.toNat_natCast]
  congr 1
  rw [List.drop_drop, List.take_drop, List.take_take, List.drop_take, List.drop_take]
  congr 1 <;> omega
theorem list10 {α : Type} {l : List α} (h : l.length = 10) : ∃ a0 a1 a2 a3 a4 a5 a6 a7 a8 a9, l = [a0, a1, a2, a3, a4, a5, a6, a7, a8, a9] := by
  match l, h with
  | [a0, a1, a2, a3, a4, a5, a6, a7, a8, a9], _ => exact ⟨_, _, _, _, _, _, _, _, _, _, rfl⟩
/-- The impl's record, where its head's name was read: what follows. -/
theorem rec_tail (b : List Int) (hb : Bytes b) (hl : b.length ≤ 65535) (k : Nat) (hk : 450000001 ≤ k) (o : ByteArray) (q : Nat) (hq : (q : Int) + 10 ≤ (b.length : Int)) (a0 a1 a2 a3 a4 a5 a6 a7 a8 a9 : UInt8) (hS : L (cut b (q : Int) ((q + 10 : Nat) : Int)) = [a0, a1, a2, a3, a4, a5, a6, a7, a8, a9]) :
    ((impl_decoder_take.f b q 0 2).bind fun t2 => (impl_u16.f t2.1).bind fun ty => (impl_decoder_take.f b t2.2.1 t2.2.2 2).bind fun t3 => (impl_u16.f t3.1).bind fun cl => (impl_decoder_take.f b t3.2.1 t3.2.2 4).bind fun t4 => (impl_u32.f t4.1).bind fun ttl => (impl_decoder_take.f b t4.2.1 t4.2.2 2).bind fun t5 => (impl_u16.f t5.1).bind fun n =>
      if 0 ≤ t5.2.1 ∧ t5.2.1 ≤ 1000000 ∧ 0 ≤ n ∧ n ≤ 1000000 then
      if t5.2.2 = 0 then (if t5.2.1 + n > (b.length : Int) then some (recZ t5.2.1 8) else if n = 0 then some (o, ty, cl, ttl, ⟨#[]⟩, t5.2.1, 0) else recData k b o ty cl ttl n t5.2.1)
      else some (recZ t5.2.1 t5.2.2) else none) =
    (let ty := (a0.toNat : Int) * 256 + a1.toNat; let cl := (a2.toNat : Int) * 256 + a3.toNat; let ttl := num 0 [a4, a5, a6, a7]; let n := (a8.toNat : Int) * 256 + a9.toNat;
      if (q : Int) + 10 + n > (b.length : Int) then some (recZ (q + 10) 8) else if n = 0 then some (o, ty, cl, ttl, ⟨#[]⟩, (q : Int) + 10, 0) else recData k b o ty cl ttl n (q + 10)) := by
  have s1 : L (cut b (q : Int) ((q : Int) + 2)) = [a0, a1] := by
    have := L_sub b q 0 2 10 (by decide) (by decide)
    rw [hS] at this
    simpa using this
  have s2 : L (cut b ((q : Int) + 2) ((q : Int) + 2 + 2)) = [a2, a3] := by
    have := L_sub b q 2 4 10 (by decide) (by decide)
    rw [hS] at this
    rw [show (q : Int) + 2 = ((q + 2 : Nat) : Int) by omega, show ((q + 2 : Nat) : Int) + 2 = ((q + 4 : Nat) : Int) by omega]
    simpa using this
  have s3 : L (cut b ((q : Int) + 2 + 2) ((q : Int) + 2 + 2 + 4)) = [a4, a5, a6, a7] := by
    have := L_sub b q 4 8 10 (by decide) (by decide)
    rw [hS] at this
    rw [show (q : Int) + 2 + 2 = ((q + 4 : Nat) : Int) by omega, show ((q + 4 : Nat) : Int) + 4 = ((q + 8 : Nat) : Int) by omega]
    simpa using this
  have s4 : L (cut b ((q : Int) + 2 + 2 + 4) ((q : Int) + 2 + 2 + 4 + 2)) = [a8, a9] := by
    have := L_sub b q 8 10 10 (by decide) (by decide)
    rw [hS] at this
    rw [show (q : Int) + 2 + 2 + 4 = ((q + 8 : Nat) : Int) by omega, show ((q + 8 : Nat) : Int) + 2 = ((q + 10 : Nat) : Int) by omega]
    simpa using this
  rw [take_in b q 2 (by omega) (by omega) (by decide) (by decide) (by omega), Option.bind_some]
  dsimp only
  rw [impl_u16_eq s1, Option.bind_some, take_in b _ 2 (by omega) (by omega) (by decide) (by decide) (by omega), Option.bind_some]
  dsimp only
  rw [impl_u16_eq s2, Option.bind_some, take_in b _ 4 (by omega) (by omega) (by decide) (by decide) (by omega), Option.bind_some]
  dsimp only
  rw [impl_u32_eq s3, Option.bind_some, take_in b _ 2 (by omega) (by omega) (by decide) (by decide) (by omega), Option.bind_some]
  dsimp only
  have h8 := byte_le a8
  have h9 := byte_le a9
  rw [impl_u16_eq s4, Option.bind_some, if_pos ⟨by omega, by omega, by omega, by omega⟩, if_pos rfl, show (q : Int) + 2 + 2 + 4 + 2 = (q : Int) + 10 by omega]
/-- .. and where the head isn't whole. -/
theorem rec_short (b : List Int) (hl : b.length ≤ 65535) (k : Nat) (o : ByteArray) (q c : Int) (h0 : 0 ≤ q) (h1 : q ≤ (b.length : Int)) (h : c ≠ 0 ∨ q + 10 > (b.length : Int)) :
    ∃ z, ((impl_decoder_take.f b q c 2).bind fun t2 => (impl_u16.f t2.1).bind fun ty => (impl_decoder_take.f b t2.2.1 t2.2.2 2).bind fun t3 => (impl_u16.f t3.1).bind fun cl => (impl_decoder_take.f b t3.2.1 t3.2.2 4).bind fun t4 => (impl_u32.f t4.1).bind fun ttl => (impl_decoder_take.f b t4.2.1 t4.2.2 2).bind fun t5 => (impl_u16.f t5.1).bind fun n =>
      if 0 ≤ t5.2.1 ∧ t5.2.1 ≤ 1000000 ∧ 0 ≤ n ∧ n ≤ 1000000 then
      if t5.2.2 = 0 then (if t5.2.1 + n > (b.length : Int) then some (recZ t5.2.1 8) else if n = 0 then some (o, ty, cl, ttl, ⟨#[]⟩, t5.2.1, 0) else recData k b o ty cl ttl n t5.2.1)
      else some (recZ t5.2.1 t5.2.2) else none) = some (recZ z (if c = 0 then 8 else c)) := by
  obtain ⟨s2, q2, c2, v2, e2, f2, _, _, g2, g2', x2, y2, z2⟩ := two_any b hl q c h0 h1
  obtain ⟨s3, q3, c3, v3, e3, f3, _, _, g3, g3', x3, y3, z3⟩ := two_any b hl q2 c2 (by omega) g2'
  obtain ⟨s4, q4, c4, v4, e4, f4, g4, g4', x4, y4, z4⟩ := four_any b hl q3 c3 (by omega) g3'
  obtain ⟨s5, q5, c5, v5, e5, f5, r5, r5', g5, g5', x5, y5, z5⟩ := two_any b hl q4 c4 (by omega) g4'
  rw [e2, Option.bind_some]
  dsimp only
  rw [f2, Option.bind_some, e3, Option.bind_some]
  dsimp only
  rw [f3, Option.bind_some, e4, Option.bind_some]
  dsimp only
  rw [f4, Option.bind_some, e5, Option.bind_some]
  dsimp only
  rw [f5, Option.bind_some, if_pos ⟨by omega, by omega, by omega, by omega⟩]
  have hc5 : c5 = if c = 0 then 8 else c := by
    by_cases hc : c = 0
    · rw [if_pos hc]
      by_cases p2 : q + 2 > (b.length : Int)
      · obtain ⟨rfl, _⟩ := y2 hc p2
        obtain ⟨rfl, _⟩ := x3 (by decide)
        obtain ⟨rfl, _⟩ := x4 (by decide)
        exact (x5 (by decide)).1
      · obtain ⟨rfl, rfl, _⟩ := z2 hc (by omega)
        by_cases p3 : q + 2 + 2 > (b.length : Int)
        · obtain ⟨rfl, _⟩ := y3 rfl p3
          obtain ⟨rfl, _⟩ := x4 (by decide)
          exact (x5 (by decide)).1
        · obtain ⟨rfl, rfl, _⟩ := z3 rfl (by omega)
          by_cases p4 : q + 2 + 2 + 4 > (b.length : Int)
          · obtain ⟨rfl, _⟩ := y4 rfl p4
            exact (x5 (by decide)).1
          · obtain ⟨rfl, rfl, _⟩ := z4 rfl (by omega)
            have : q + 2 + 2 + 4 + 2 > (b.length : Int) := by
              rcases h with h | h
              · exact absurd hc h
              · omega
            exact (y5 rfl this).1
    · rw [if_neg hc]
      obtain ⟨rfl, _⟩ := x2 hc
      obtain ⟨rfl, _⟩ := x3 hc
      obtain ⟨rfl, _⟩ := x4 hc
      exact (x5 hc).1
  have hn : c5 ≠ 0 := by rw [hc5]; split <;> first | decide | assumption
  rw [if_neg hn, hc5]
  exact ⟨q5, rfl⟩
/-- What follows a record's head, read by both. -/
theorem data_both (b : List Int) (hb : Bytes b) (hl : b.length ≤ 65535) (k : Nat) (hk : 450000002 ≤ k) (o : ByteArray) (ty cl ttl n p : Int) (h0 : 0 ≤ ty) (h1 : ty ≤ 65535) (hn : 0 ≤ n) (hp : 0 ≤ p) (hf : p + n ≤ (b.length : Int)) :
    ∃ d c z, spec_l04Data.f k b ty p (p + n) = some (d, c) ∧ (if n = 0 then some (o, ty, cl, ttl, (⟨#[]⟩ : ByteArray), p, (0 : Int)) else recData k b o ty cl ttl n p) = some (recOf o ty cl ttl (p + n) (d, c) z) := by
  by_cases e : n = 0
  · subst e
    refine ⟨⟨#[]⟩, 0, 0, ?_, ?_⟩
    · unfold spec_l04Data.f
      rw [if_pos (by omega)]
    · rw [if_pos rfl, recOf_ok, Int.add_zero]
  · rw [if_neg e]
    by_cases hp' : pointed ty = true
    · obtain ⟨q, hq⟩ := recData_pointed b hb hl k (by omega) o ty cl ttl n p h0 h1 hp' (by omega) hp hf
      exact ⟨_, _, q, spec_l04Data_pointed b hb (by omega) ty p (p + n) hp' hp (by omega) hf k (by omega), hq⟩
    · obtain ⟨c1, c2⟩ := CheckData_val ty h0 h1 (cut b p (p + n)) k (by omega)
      have eC : strOfNums ((b.take (p + n).toNat).drop p.toNat) = cut b p (p + n) := rfl
      unfold spec_l04Data.f recData
      rw [if_neg (by omega), spec_l04Pointed_eq, Option.bind_some, if_neg hp', if_pos hp, if_pos (by omega), if_pos hf, eC, c2, Option.bind_some]
      rw [impl_hasPointers_eq, Option.bind_some, if_neg hp', take_in b p n hp (by omega) hn (by omega) hf, Option.bind_some]
      dsimp only
      rw [recEnd_val k (by omega) o ty cl ttl h0 h1]
      by_cases g : (cut b p (p + n)).size ≤ 65535 ∧ spg (sform ty) (L (cut b p (p + n))) = true
      · rw [if_pos g, if_pos g, if_pos rfl]
        exact ⟨_, _, 0, rfl, by rw [recOf_ok]⟩
      · rw [if_neg g, if_neg g, if_neg (by decide)]
        exact ⟨_, _, p + n, rfl, by rw [recOf_no _ _ _ _ _ _ _ _ (by decide)]⟩
/-- A record, read by both: the same; or both tell the same code. -/
theorem record_both (b : List Int) (hb : Bytes b) (hl : b.length ≤ 65535) (k : Nat) (hk : 450000002 ≤ k) (p : Int) (h0 : 0 ≤ p) (h1 : p ≤ (b.length : Int)) :
    (∃ o ty cl ttl d next, spec_l04Record.f k b p = some (o, ty, cl, ttl, d, next, 0) ∧ impl_decoder_record.f k b p 0 = some (o, ty, cl, ttl, d, next, 0) ∧ 0 ≤ next ∧ next ≤ (b.length : Int)) ∨
    (∃ c q, c ≠ 0 ∧ spec_l04Record.f k b p = some (⟨#[]⟩, 0, 0, 0, ⟨#[]⟩, 0, c) ∧ impl_decoder_record.f k b p 0 = some (recZ q c)) := by
  have F1 := decN_ok b hb p h0
  have F4 := name_in b hb (by omega) p k (by omega)
  unfold spec_l04Record.f impl_decoder_record.f
  rw [spec_DecodeName_eq b hb (by omega) p k (by omega), Option.bind_some, F4, Option.bind_some]
  clear F4
  generalize decN b p = x1 at *
  obtain ⟨o, q1, c1⟩ := x1
  dsimp only at *
  by_cases e : c1 = 0
  case neg =>
    right
    rw [if_neg e, if_neg e]
    obtain ⟨z, hz⟩ := rec_short b hl k o p c1 h0 h1 (Or.inl e)
    rw [if_neg e] at hz
    exact ⟨c1, z, e, rfl, hz⟩
  case pos =>
  subst e
  obtain ⟨_, j1, j2⟩ := F1 rfl
  rw [if_pos rfl, if_pos rfl]
  obtain ⟨q, rfl⟩ := Int.eq_ofNat_of_zero_le (show 0 ≤ q1 by omega)
  rw [w64 (x := (q : Int) + 10) (by omega) (by omega)]
  by_cases hq : (q : Int) + 10 > (b.length : Int)
  · right
    rw [if_pos hq]
    obtain ⟨z, hz⟩ := rec_short b hl k o q 0 (by omega) j2 (Or.inr hq)
    rw [if_pos rfl] at hz
    exact ⟨8, z, by decide, rfl, hz⟩
  · have hS10 : (L (cut b (q : Int) ((q + 10 : Nat) : Int))).length = 10 := by rw [len_cut b _ _ (by omega) (by omega) (by omega)]; omega
    obtain ⟨a0, a1, a2, a3, a4, a5, a6, a7, a8, a9, hS⟩ := list10 hS10
    rw [rec_tail b hb hl k (by omega) o q (by omega) a0 a1 a2 a3 a4 a5 a6 a7 a8 a9 hS]
    have eC : strOfNums ((b.take ((q : Int) + 10).toNat).drop (q : Int).toNat) = cut b (q : Int) ((q + 10 : Nat) : Int) := rfl
    rw [eC]
    generalize cut b (q : Int) ((q + 10 : Nat) : Int) = S at *
    have hSz : S.size = 10 := by rw [size_L, hS10]
    have x8 : L (S.extract 8 S.size) = [a8, a9] := by rw [L_extract, hS, hSz]; rfl
    have x0 : L (S.extract 0 2) = [a0, a1] := by rw [L_extract, hS]; rfl
    have x2 : L (S.extract 2 4) = [a2, a3] := by rw [L_extract, hS]; rfl
    have x4 : L (S.extract 4 8) = [a4, a5, a6, a7] := by rw [L_extract, hS]; rfl
    have h0' := byte_le a0
    have h1' := byte_le a1
    have h8 := byte_le a8
    have h9 := byte_le a9
    have n4 : spec_l02Num.f k (S.extract 4 8) = some (num 0 [a4, a5, a6, a7]) := by
      rw [spec_l02Num_eq _ (by rw [size_L, x4]; show 4 ≤ 7; omega) k (by rw [size_L, x4]; show 4 < k; omega), x4]
    rw [if_neg hq, if_pos (by omega), if_pos (by omega), if_pos (by omega), if_pos (by omega), spec_l02Num_two x8 k (by omega), Option.bind_some]
    generalize hty : (a0.toNat : Int) * 256 + a1.toNat = ty at *
    generalize hcl : (a2.toNat : Int) * 256 + a3.toNat = cl at *
    generalize httl : num 0 [a4, a5, a6, a7] = ttl at *
    generalize hn : (a8.toNat : Int) * 256 + a9.toNat = n at *
    rw [w64 (x := (q : Int) + 10 + n) (by omega) (by omega)]
    dsimp only
    by_cases hf : (q : Int) + 10 + n > (b.length : Int)
    · right
      rw [if_pos hf, if_pos hf]
      exact ⟨8, _, by decide, rfl, rfl⟩
    · rw [if_neg hf, if_neg hf, if_pos (by decide), if_pos (by omega), spec_l02Num_two x0 k (by omega), Option.bind_some]
      rw [hty]
      obtain ⟨d, c, z, d1, d2⟩ := data_both b hb hl k hk o ty cl ttl n ((q : Int) + 10) (by omega) (by omega) (by omega) (by omega) (by omega)
      rw [d1, d2, Option.bind_some]
      dsimp only
      by_cases g : c = 0
      · left
        subst g
        rw [if_pos rfl, Option.bind_some, if_pos (by decide), if_pos (by omega), spec_l02Num_two x2 k (by omega), Option.bind_some, if_pos (by decide), n4, Option.bind_some, hcl, recOf_ok]
        exact ⟨_, _, _, _, _, _, rfl, rfl, by omega, by omega⟩
      · right
        rw [if_neg g, recOf_no _ _ _ _ _ _ _ _ g]
        exact ⟨c, z, g, rfl, rfl⟩

end Go.Proofs.YtcamchdenjpmhaaDoor.Pure
namespace Go.Proofs.YtcamchdenjpmhaaDoor.Pure
open Go.RowKit Go.Proofs.YtcamchdenjpmhaaDoor.F Go.Proofs.YtcamchdenjpmhaaDoor.Base Go.Proofs.YtcamchdenjpmhaaDoorW.PrintWords Go.Proofs.YtcamchdenjpmhaaDoorW.PrintLast Go.Proofs.YtcamchdenjpmhaaDoorW.PrintMore
set_option linter.unusedVariables false
set_option linter.unusedSimpArgs false
-- base: BaseDec BaseNum BaseMsg
theorem head_counts (l : List Int) {t1 : Int} {t2 : Bool} {t3 : Int} {t4 t5 t6 t7 t8 t9 t10 : Bool} {t11 n0 n1 n2 n3 c : Int} (h : impl_DecodeHead.f l = some (t1, t2, t3, t4, t5, t6, t7, t8, t9, t10, t11, n0, n1, n2, n3, c)) : 0 ≤ n0 ∧ n0 ≤ 65535 ∧ 0 ≤ n1 ∧ n1 ≤ 65535 ∧ 0 ≤ n2 ∧ n2 ≤ 65535 ∧ 0 ≤ n3 ∧ n3 ≤ 65535 ∧ (c = 0 → 12 ≤ l.length) := by
  unfold impl_DecodeHead.f at h
  by_cases g : l.length < 12
  · rw [if_pos g] at h
    simp only [Option.some.injEq, Prod.mk.injEq] at h
    obtain ⟨rfl, rfl, rfl, rfl, rfl, rfl, rfl, rfl, rfl, rfl, rfl, rfl, rfl, rfl, rfl, rfl⟩ := h
    refine ⟨?_, ?_, ?_, ?_, ?_, ?_, ?_, ?_, fun h => ?_⟩ <;> first | decide | (exact absurd h (by decide))
  · rw [if_neg g] at h
    have hl : (L (strOfNums (l.take 12))).length = 12 := by rw [L_strOfNums]; simp; omega
    generalize hs : strOfNums (l.take 12) = s at hl h
    obtain ⟨c0, c1, c2, c3, c4, c5, c6, c7, c8, c9, c10, c11, e⟩ := list12 hl
    have ex : ∀ i j, L (s.extract i j) = ([c0, c1, c2, c3, c4, c5, c6, c7, c8, c9, c10, c11].drop i).take (j - i) := fun i j => by rw [L_extract, e]
    rw [impl_u16_eq (ex 2 12), Option.bind_some, impl_u16_eq e, Option.bind_some, impl_bit_eq _ _ (by decide), Option.bind_some, impl_bit_eq _ _ (by decide), Option.bind_some, impl_bit_eq _ _ (by decide), Option.bind_some, impl_bit_eq _ _ (by decide), Option.bind_some, impl_bit_eq _ _ (by decide), Option.bind_some, impl_bit_eq _ _ (by decide), Option.bind_some, impl_bit_eq _ _ (by decide), Option.bind_some, impl_bit_eq _ _ (by decide), Option.bind_some, impl_u16_eq (ex 4 12), Option.bind_some, impl_u16_eq (ex 6 12), Option.bind_some, impl_u16_eq (ex 8 12), Option.bind_some, impl_u16_eq (ex 10 12), Option.bind_some] at h
    simp only [Option.some.injEq, Prod.mk.injEq] at h
    obtain ⟨-, -, -, -, -, -, -, -, -, -, -, rfl, rfl, rfl, rfl, -⟩ := h
    have b4 := byte_le c4; have b5 := byte_le c5; have b6 := byte_le c6; have b7 := byte_le c7; have b8 := byte_le c8; have b9 := byte_le c9; have b10 := byte_le c10; have b11 := byte_le c11
    refine ⟨?_, ?_, ?_, ?_, ?_, ?_, ?_, ?_, fun _ => ?_⟩ <;> omega
theorem lq_stop (k : Nat) (b : List Int) (m : Nat) (p c : Int) (q : List S47) (h : c ≠ 0) : impl_Decode.lq k b m p c q = some (p, c, q) := by
  cases m with
  | zero => rfl
  | succ m => rw [impl_Decode.lq, if_neg h]
theorem lr_stop (k : Nat) (b : List Int) (m : Nat) (p c : Int) (q : List S53) (h : c ≠ 0) : impl_Decode.lr k b m p c q = some (p, c, q) := by
  cases m with
  | zero => rfl
  | succ m => rw [impl_Decode.lr, if_neg h]
theorem list4 {α : Type} {l : List α} (h : l.length = 4) : ∃ a0 a1 a2 a3, l = [a0, a1, a2, a3] := by
  match l, h with
  | [a0, a1, a2, a3], _ => exact ⟨_, _, _, _, rfl⟩
theorem lr_both (b : List Int) (hb : Bytes b) (hl : b.length ≤ 65535) (k : Nat) (hk : 450000002 ≤ k) : ∀ (m : Nat) (p x : Int) (a : List S53), 0 ≤ p → p ≤ (b.length : Int) → a.length + m ≤ 100000 →
    (∃ p' x' a', spec_l04Read.lr k b m p x a = some (true, p', x', a') ∧ impl_Decode.lr k b m p 0 a = some (p', 0, a') ∧ 0 ≤ p' ∧ p' ≤ (b.length : Int) ∧ a'.length = a.length + m) ∨
    (∃ c p' a', c ≠ 0 ∧ spec_l04Read.lr k b m p x a = some (false, c, 0, []) ∧ impl_Decode.lr k b m p 0 a = some (p', c, a')) := by
  intro m
  induction m with
  | zero => intro p x a h0 h1 h2; exact Or.inl ⟨p, x, a, rfl, rfl, h0, h1, rfl⟩
  | succ m ih =>
    intro p x a h0 h1 h2
    rw [spec_l04Read.lr, impl_Decode.lr, if_pos rfl]
    rcases record_both b hb hl k hk p h0 h1 with ⟨o, ty, cl, ttl, d, next, e1, e2, e3, e4⟩ | ⟨c, q, hc, e1, e2⟩
    · rw [e1, e2, Option.bind_some, Option.bind_some]
      dsimp only
      rw [if_pos rfl, if_pos (by omega), if_pos (by omega)]
      have e5 : (a ++ [(⟨o, ty, cl, ttl, d⟩ : S53)]).length = a.length + 1 := by simp
      rcases ih next p (a ++ [⟨o, ty, cl, ttl, d⟩]) e3 e4 (by omega) with ⟨p', x', a', f1, f2, f3, f4, f5⟩ | ⟨c, p', a', hc, f1, f2⟩
      · exact Or.inl ⟨p', x', a', f1, f2, f3, f4, by omega⟩
      · exact Or.inr ⟨c, p', a', hc, f1, f2⟩
    · right
      rw [e1, e2, Option.bind_some, Option.bind_some]
      unfold recZ
      dsimp only
      rw [if_neg hc, if_pos (by omega), lr_stop _ _ _ _ _ _ hc]
      exact ⟨c, _, _, hc, rfl, rfl⟩
theorem lq_both (b : List Int) (hb : Bytes b) (hl : b.length ≤ 65535) (k : Nat) (hk : 450000002 ≤ k) : ∀ (m : Nat) (p : Int) (a : List S47), 0 ≤ p → p ≤ (b.length : Int) → a.length + m ≤ 100000 →
    (∃ p' a', spec_l04Read.lq k b m p a = some (true, p', a') ∧ impl_Decode.lq k b m p 0 a = some (p', 0, a') ∧ 0 ≤ p' ∧ p' ≤ (b.length : Int) ∧ a'.length = a.length + m) ∨
    (∃ c p' a', c ≠ 0 ∧ spec_l04Read.lq k b m p a = some (false, c, []) ∧ impl_Decode.lq k b m p 0 a = some (p', c, a')) := by
  intro m
  induction m with
  | zero => intro p a h0 h1 h2; exact Or.inl ⟨p, a, rfl, rfl, h0, h1, rfl⟩
  | succ m ih =>
    intro p a h0 h1 h2
    have F1 := decN_ok b hb p h0
    have F2 := decN_bad b hb p h0
    rw [spec_l04Read.lq, impl_Decode.lq, if_pos rfl, spec_DecodeName_eq b hb (by omega) p k (by omega), Option.bind_some, name_in b hb (by omega) p k (by omega), Option.bind_some]
    generalize decN b p = x1 at *
    obtain ⟨o, q1, c1⟩ := x1
    dsimp only at *
    by_cases e : c1 = 0
    case neg =>
      right
      obtain ⟨-, rfl⟩ := F2 e
      rw [if_neg e, if_pos ⟨by omega, by omega⟩, if_neg e]
      obtain ⟨s2, q2, d2, v2, g1, g2, _, _, g3, g4, g5, _, _⟩ := two_any b hl p c1 h0 h1
      obtain ⟨s3, q3, d3, v3, j1, j2, _, _, j3, j4, j5, _, _⟩ := two_any b hl q2 d2 (by omega) g4
      have k1 : d2 = c1 := (g5 e).1
      have k2 : d3 = c1 := by rw [(j5 (by rw [k1]; exact e)).1, k1]
      have k3 : d3 ≠ 0 := by rw [k2]; exact e
      rw [g1, Option.bind_some]
      dsimp only
      rw [g2, Option.bind_some, j1, Option.bind_some]
      dsimp only
      rw [j2, Option.bind_some, if_pos (by omega), lq_stop _ _ _ _ _ _ k3, k2]
      exact ⟨_, _, _, e, rfl, rfl⟩
    case pos =>
    subst e
    obtain ⟨_, j1, j2⟩ := F1 rfl
    rw [if_pos rfl, if_pos ⟨by omega, by omega⟩, if_pos rfl]
    obtain ⟨q, rfl⟩ := Int.eq_ofNat_of_zero_le (show 0 ≤ q1 by omega)
    obtain ⟨s2, q2, d2, v2, g1, g2, _, _, g3, g4, _, g6, g7⟩ := two_any b hl q 0 (by omega) j2
    obtain ⟨s3, q3, d3, v3, i1, i2, _, _, i3, i4, i5, i6, i7⟩ := two_any b hl q2 d2 (by omega) g4
    rw [g1, Option.bind_some]
    dsimp only
    rw [g2, Option.bind_some, i1, Option.bind_some]
    dsimp only
    rw [i2, Option.bind_some]
    by_cases hq : (q : Int) + 4 > (b.length : Int)
    · right
      rw [if_pos hq, if_pos (by omega)]
      have hd : d3 = 8 := by
        by_cases p2 : (q : Int) + 2 > (b.length : Int)
        · obtain ⟨rfl, _⟩ := g6 rfl p2
          exact (i5 (by decide)).1
        · obtain ⟨rfl, rfl, _⟩ := g7 rfl (by omega)
          exact (i6 rfl (by omega)).1
      subst hd
      rw [lq_stop _ _ _ _ _ _ (by decide)]
      exact ⟨8, _, _, by decide, rfl, rfl⟩
    · obtain ⟨rfl, rfl, rfl⟩ := g7 rfl (by omega)
      obtain ⟨rfl, rfl, rfl⟩ := i7 rfl (by omega)
      have hS4 : (L (cut b (q : Int) ((q + 4 : Nat) : Int))).length = 4 := by rw [len_cut b _ _ (by omega) (by omega) (by omega)]; omega
      obtain ⟨a0, a1, a2, a3, hS⟩ := list4 hS4
      have s1 : L (cut b (q : Int) ((q : Int) + 2)) = [a0, a1] := by
        have := L_sub b q 0 2 4 (by decide) (by decide)
        rw [hS] at this
        simpa using this
      have s2' : L (cut b ((q : Int) + 2) ((q : Int) + 2 + 2)) = [a2, a3] := by
        have := L_sub b q 2 4 4 (by decide) (by decide)
        rw [hS] at this
        rw [show (q : Int) + 2 = ((q + 2 : Nat) : Int) by omega, show ((q + 2 : Nat) : Int) + 2 = ((q + 4 : Nat) : Int) by omega]
        simpa using this
      rw [impl_u16_eq s1] at g2
      rw [impl_u16_eq s2'] at i2
      cases g2
      cases i2
      have eC : spec_l04Read.cut b (q : Int) = cut b (q : Int) ((q + 4 : Nat) : Int) := rfl
      rw [if_neg hq, eC, if_pos (show a.length ≤ 100000 by omega)]
      generalize cut b (q : Int) ((q + 4 : Nat) : Int) = S at *
      have hSz : S.size = 4 := by rw [size_L, hS4]
      have x0 : L (S.extract 0 2) = [a0, a1] := by rw [L_extract, hS]; rfl
      have x2 : L (S.extract 2 S.size) = [a2, a3] := by rw [L_extract, hS, hSz]; rfl
      rw [spec_l02Num_two x0 k (by omega), Option.bind_some, spec_l02Num_two x2 k (by omega), Option.bind_some, if_pos (by omega), show (q : Int) + 2 + 2 = (q : Int) + 4 by omega]
      have e5 : (a ++ [(⟨o, (a0.toNat : Int) * 256 + a1.toNat, (a2.toNat : Int) * 256 + a3.toNat⟩ : S47)]).length = a.length + 1 := by simp
      rcases ih ((q : Int) + 4) (a ++ [⟨o, (a0.toNat : Int) * 256 + a1.toNat, (a2.toNat : Int) * 256 + a3.toNat⟩]) (by omega) (by omega) (by omega) with ⟨p', a', f1, f2, f3, f4, f5⟩ | ⟨c, p', a', hc, f1, f2⟩
      · exact Or.inl ⟨p', a', f1, f2, f3, f4, by omega⟩
      · exact Or.inr ⟨c, p', a', hc, f1, f2⟩
/-- The whole message, read by both: the same. -/
theorem read_both (b : List Int) (hb : Bytes b) (k : Nat) (hk : 450000002 ≤ k) : ∃ (h : S24) (q : List S47) (a u e : List S53) (z c : Int), spec_l04Read.f k b = some (h.f0, h.f1, h.f2, h.f3, h.f4, h.f5, h.f6, h.f7, h.f8, h.f9, h.f10, q, a, u, e, z, c) ∧ impl_Decode.f k b = some (h.f0, h.f1, h.f2, h.f3, h.f4, h.f5, h.f6, h.f7, h.f8, h.f9, h.f10, q, a, u, e, c) ∧ q.length ≤ 400 ∧ a.length ≤ 400 ∧ u.length ≤ 400 ∧ e.length ≤ 400 := by
  have Z : ∀ c : Int, spec_l04Read.f k b = some (readZ c) → impl_Decode.f k b = some (msgZ c) → ∃ (h : S24) (q : List S47) (a u e : List S53) (z c : Int), spec_l04Read.f k b = some (h.f0, h.f1, h.f2, h.f3, h.f4, h.f5, h.f6, h.f7, h.f8, h.f9, h.f10, q, a, u, e, z, c) ∧ impl_Decode.f k b = some (h.f0, h.f1, h.f2, h.f3, h.f4, h.f5, h.f6, h.f7, h.f8, h.f9, h.f10, q, a, u, e, c) ∧ q.length ≤ 400 ∧ a.length ≤ 400 ∧ u.length ≤ 400 ∧ e.length ≤ 400 :=
    fun c h1 h2 => ⟨⟨0, false, 0, false, false, false, false, false, false, false, 0⟩, [], [], [], [], 0, c, h1, h2, by decide, by decide, by decide, by decide⟩
  by_cases hl : (b.length : Int) > 65535
  · exact Z 11 (by unfold spec_l04Read.f; rw [if_pos hl]) (by unfold impl_Decode.f; rw [if_pos hl])
  obtain ⟨⟨t1, t2, t3, t4, t5, t6, t7, t8, t9, t10, t11, n0, n1, n2, n3, c⟩, d1, d2⟩ := DecodeHead_both b
  obtain ⟨b0, b0', b1, b1', b2, b2', b3, b3', hlen⟩ := head_counts b d1
  replace d2 := d2 k (by omega)
  by_cases hc : c = 0
  case neg =>
    refine Z c ?_ ?_
    · unfold spec_l04Read.f; rw [if_neg hl, d2, Option.bind_some]; dsimp only; rw [if_neg hc]
    · unfold impl_Decode.f; rw [if_neg hl, d1, Option.bind_some]; dsimp only; rw [if_neg hc]
  subst hc
  have h12 := hlen rfl
  by_cases hs : n0 + n1 + n2 + n3 > 400
  · refine Z 12 ?_ ?_
    · unfold spec_l04Read.f; rw [if_neg hl, d2, Option.bind_some]; dsimp only; rw [if_pos rfl, if_pos ⟨b0, b0', b1, b1', b2, b2', b3, b3'⟩, if_pos hs]
    · unfold impl_Decode.f; rw [if_neg hl, d1, Option.bind_some]; dsimp only; rw [if_pos rfl, if_pos ⟨b0, b0', b1, b1', b2, b2', b3, b3'⟩, if_pos hs]
  have S1 : spec_l04Read.f k b = (spec_l04Read.lq k b n0.toNat 12 []).bind fun x0 => if x0.1 = true then (spec_l04Read.rest k b n1.toNat n2.toNat n3.toNat 1 x0.2.1 0 [] [] []).bind fun x => if x.1 = true then (if x.2.1 = (b.length : Int) then some (t1, t2, t3, t4, t5, t6, t7, t8, t9, t10, t11, x0.2.2, x.2.2.2.1, x.2.2.2.2.1, x.2.2.2.2.2, x.2.2.1, 0) else some (readZ 10)) else some (readZ x.2.1) else some (readZ x0.2.1) := by
    unfold spec_l04Read.f; rw [if_neg hl, d2, Option.bind_some]; dsimp only; rw [if_pos rfl, if_pos ⟨b0, b0', b1, b1', b2, b2', b3, b3'⟩, if_neg hs]
  have I1 : impl_Decode.f k b = (impl_Decode.lq k b n0.toNat 12 0 []).bind fun x0 => (impl_Decode.lr k b n1.toNat x0.1 x0.2.1 []).bind fun x1 => (impl_Decode.lr k b n2.toNat x1.1 x1.2.1 []).bind fun x2 => (impl_Decode.lr k b n3.toNat x2.1 x2.2.1 []).bind fun x3 =>
        if x3.2.1 = 0 then (if x3.1 = (b.length : Int) then some (t1, t2, t3, t4, t5, t6, t7, t8, t9, t10, t11, x0.2.2, x1.2.2, x2.2.2, x3.2.2, 0) else some (msgZ 10)) else some (msgZ x3.2.1) := by
    unfold impl_Decode.f; rw [if_neg hl, d1, Option.bind_some]; dsimp only; rw [if_pos rfl, if_pos ⟨b0, b0', b1, b1', b2, b2', b3, b3'⟩, if_neg hs]
  clear d1 d2 hlen
  have hF : ¬ (false = true) := by decide
  rcases lq_both b hb (by omega) k hk n0.toNat 12 [] (by decide) (by omega) (by show 0 + _ ≤ _; omega) with ⟨p0, q0, e1, e2, e3, e4, e5⟩ | ⟨c, p0, q0, hc, e1, e2⟩
  case inr =>
    refine Z c ?_ ?_
    · rw [S1, e1, Option.bind_some]; dsimp only; rw [if_neg hF]
    · rw [I1, e2, Option.bind_some]; dsimp only; rw [lr_stop _ _ _ _ _ _ hc, Option.bind_some]; dsimp only; rw [lr_stop _ _ _ _ _ _ hc, Option.bind_some]; dsimp only; rw [lr_stop _ _ _ _ _ _ hc, Option.bind_some]; dsimp only; rw [if_neg hc]
  rw [e1, Option.bind_some] at S1
  rw [e2, Option.bind_some] at I1
  dsimp only at S1 I1
  rw [if_pos rfl, spec_l04Read.rest] at S1
  rcases lr_both b hb (by omega) k hk n1.toNat p0 0 [] e3 e4 (by show 0 + _ ≤ _; omega) with ⟨p1, x1, a1, f1, f2, f3, f4, f5⟩ | ⟨c, p1, a1, hc, f1, f2⟩
  case inr =>
    refine Z c ?_ ?_
    · rw [S1, f1, Option.bind_some]; dsimp only; rw [if_neg hF, Option.bind_some]; dsimp only; rw [if_neg hF]
    · rw [I1, f2, Option.bind_some]; dsimp only; rw [lr_stop _ _ _ _ _ _ hc, Option.bind_some]; dsimp only; rw [lr_stop _ _ _ _ _ _ hc, Option.bind_some]; dsimp only; rw [if_neg hc]
  rw [f1, Option.bind_some] at S1
  rw [f2, Option.bind_some] at I1
  dsimp only at S1 I1
  rw [if_pos rfl] at S1
  rcases lr_both b hb (by omega) k hk n2.toNat p1 x1 [] f3 f4 (by show 0 + _ ≤ _; omega) with ⟨p2, x2, a2, g1, g2, g3, g4, g5⟩ | ⟨c, p2, a2, hc, g1, g2⟩
  case inr =>
    refine Z c ?_ ?_
    · rw [S1, g1, Option.bind_some]; dsimp only; rw [if_neg hF, Option.bind_some]; dsimp only; rw [if_neg hF]
    · rw [I1, g2, Option.bind_some]; dsimp only; rw [lr_stop _ _ _ _ _ _ hc, Option.bind_some]; dsimp only; rw [if_neg hc]
  rw [g1, Option.bind_some] at S1
  rw [g2, Option.bind_some] at I1
  dsimp only at S1 I1
  rw [if_pos rfl] at S1
  rcases lr_both b hb (by omega) k hk n3.toNat p2 x2 [] g3 g4 (by show 0 + _ ≤ _; omega) with ⟨p3, x3, a3, h1, h2, h3, h4, h5⟩ | ⟨c, p3, a3, hc, h1, h2⟩
  case inr =>
    refine Z c ?_ ?_
    · rw [S1, h1, Option.bind_some]; dsimp only; rw [if_neg hF, Option.bind_some]; dsimp only; rw [if_neg hF]
    · rw [I1, h2, Option.bind_some]; dsimp only; rw [if_neg hc]
  rw [h1, Option.bind_some] at S1
  rw [h2, Option.bind_some] at I1
  dsimp only at S1 I1
  rw [if_pos rfl, Option.bind_some] at S1
  dsimp only at S1
  rw [if_pos rfl] at S1 I1
  by_cases hp : p3 = (b.length : Int)
  case neg => exact Z 10 (by rw [S1, if_neg hp]) (by rw [I1, if_neg hp])
  rw [if_pos hp] at S1 I1
  have z0 : ([] : List S53).length = 0 := rfl
  have z1 : ([] : List S47).length = 0 := rfl
  exact ⟨⟨t1, t2, t3, t4, t5, t6, t7, t8, t9, t10, t11⟩, q0, a1, a2, a3, x3, 0, S1, I1, by omega, by omega, by omega, by omega⟩

end Go.Proofs.YtcamchdenjpmhaaDoor.Pure
namespace Go.Proofs.YtcamchdenjpmhaaDoor.Pure
open Go.RowKit Go.Proofs.YtcamchdenjpmhaaDoor.F Go.Proofs.YtcamchdenjpmhaaDoor.Base Go.Proofs.YtcamchdenjpmhaaDoorW.PrintWords Go.Proofs.YtcamchdenjpmhaaDoorW.PrintLast Go.Proofs.YtcamchdenjpmhaaDoorW.PrintMore
set_option linter.unusedVariables false
set_option linter.unusedSimpArgs false
-- base: BaseDec BaseMsg
theorem rrmarks_cons (n : Nat) (m : Int) : rrmarks (n + 1) m = rrmark m :: rrmarks n (m + 5) := by
  simp only [rrmarks, List.range_succ_eq_map, List.map_cons, List.map_map]
  congr 1
  · congr 1; omega
  · apply List.map_congr_left
    intro j _
    show rrmark (m + 5 * ((j + 1 : Nat) : Int)) = rrmark (m + 5 + 5 * (j : Int))
    congr 1; omega
theorem rr_held (k : Nat) (hk : 30 ≤ k) : ∀ (n : Nat) (m : Int), 0 ≤ m → m + 5 * n ≤ 1000000000000000 → laws_heldRRS.h k (rrmarks n m) m = some (m + 5 * n) := by
  intro n
  induction n with
  | zero => intro m h0 h1; show some m = _; congr 1; omega
  | succ n ih =>
    intro m h0 h1
    rw [rrmarks_cons, laws_heldRRS.h, if_pos ⟨h0, by omega⟩, laws_markText_eq m h0 (by omega) k hk, Option.bind_some, laws_markText_eq _ (by omega) (by omega) k hk, Option.bind_some, if_pos ⟨rfl, rfl, rfl, rfl, rfl⟩, show m + 1 + 1 + 1 + 1 + 1 = m + 5 by omega, ih (m + 5) (by omega) (by omega)]
    congr 1; omega
theorem q_held (k : Nat) (hk : 30 ≤ k) : ∀ (n : Nat) (m : Int), 0 ≤ m → m + 3 * n ≤ 1000000000000000 → laws_heldQuestionS.h k (qmarks n m) m = some (m + 3 * n) := by
  intro n
  induction n with
  | zero => intro m h0 h1; show some m = _; congr 1; omega
  | succ n ih =>
    intro m h0 h1
    rw [qmarks_cons, laws_heldQuestionS.h, if_pos ⟨h0, by omega⟩, laws_markText_eq m h0 (by omega) k hk, Option.bind_some, if_pos ⟨rfl, rfl, rfl⟩, show m + 1 + 1 + 1 = m + 3 by omega, ih (m + 3) (by omega) (by omega)]
    congr 1; omega
theorem FnExactDecode : laws_FnExactDecode.Pure := by
  intro l _ _ hw
  by_cases hl : l.length > 1048576
  · exact ⟨0, Or.inl hl⟩
  have hb : Bytes l := fun x hx => by
    have h := hw x hx
    have h0 : Go.IntKind.u8.min = 0 := by decide
    have h1 : Go.IntKind.u8.max = 255 := by decide
    simp [Go.Lit.wf, h0, h1] at h
    omega
  refine ⟨450000002, Or.inr ⟨by omega, ?_⟩⟩
  obtain ⟨h, q, a, u, e, z, c, s1, s2, n0, n1, n2, n3⟩ := read_both l hb 450000002 (Nat.le_refl _)
  have hS : spec_Decode.f 450000002 l = some (h.f0, h.f1, h.f2, h.f3, h.f4, h.f5, h.f6, h.f7, h.f8, h.f9, h.f10, q, a, u, e, c) := by
    unfold spec_Decode.f
    rw [s1, Option.bind_some]
  have M0 := laws_markQuestionS_eq q 1 (by decide) 450000002 (by omega) (by omega)
  have M1 := laws_markRRS_eq a (1 + 3 * q.length) (by omega) 450000002 (by omega) (by omega)
  have M2 := laws_markRRS_eq u (1 + 3 * q.length + 5 * a.length) (by omega) 450000002 (by omega) (by omega)
  have M3 := laws_markRRS_eq e (1 + 3 * q.length + 5 * a.length + 5 * u.length) (by omega) 450000002 (by omega) (by omega)
  have MM : laws_markMessage.m 450000002 q a u e 1 = some ((1 + 3 * q.length + 5 * a.length + 5 * u.length + 5 * e.length : Int), qmarks q.length 1, rrmarks a.length (1 + 3 * q.length), rrmarks u.length (1 + 3 * q.length + 5 * a.length), rrmarks e.length (1 + 3 * q.length + 5 * a.length + 5 * u.length)) := by
    unfold laws_markMessage.m
    rw [M0, Option.bind_some]
    dsimp only
    rw [M1, Option.bind_some]
    dsimp only
    rw [M2, Option.bind_some]
    dsimp only
    rw [M3, Option.bind_some]
  have HH : laws_heldMessage.h 450000002 (qmarks q.length 1) (rrmarks a.length (1 + 3 * q.length)) (rrmarks u.length (1 + 3 * q.length + 5 * a.length)) (rrmarks e.length (1 + 3 * q.length + 5 * a.length + 5 * u.length)) 1 = some (1 + 3 * q.length + 5 * a.length + 5 * u.length + 5 * e.length : Int) := by
    unfold laws_heldMessage.h
    rw [q_held _ (by decide) _ 1 (by decide) (by omega), Option.bind_some, if_pos (by omega), rr_held _ (by decide) _ _ (by omega) (by omega), Option.bind_some, if_pos (by omega), rr_held _ (by decide) _ _ (by omega) (by omega), Option.bind_some, if_pos (by omega), rr_held _ (by decide) _ _ (by omega) (by omega), Option.bind_some, if_pos (by omega)]
  exact ⟨h, q, a, u, e, c, _, _, _, _, _, _, _, laws_toByteS_eq l (by omega) _ (by omega), hS, s2, laws_eqByteS_refl l (by omega) _ (by omega), laws_markByteS_eq l 1 (by decide) _ (by omega) (by omega), by omega, MM, HH, by omega⟩

end Go.Proofs.YtcamchdenjpmhaaDoor.Pure
namespace Go.Proofs.YtcamchdenjpmhaaDoor.fnExactDecode
open Go.ChangeShapes Go.WideShapes Go.ChangeAt Go.RowKit
open Go.ChangeMaps (open_string shut_string)
set_option linter.unusedVariables false
theorem own : ownKnob Tryd.prog.godebug = none := by kernel_rfl
theorem laidOut : laidOutB Tryd.prog = true := by kernel_rfl
def IsRow (k : IntKind) (w : World) (a : Option Addr) (len cap : Nat) (zs : List Int) : Prop :=
  (a = none ∧ len = 0 ∧ cap = 0 ∧ zs = []) ∨
  ∃ x, a = some x ∧ len ≤ cap ∧ cap ≤ maxLen ∧ zs.length = cap ∧ (∀ i, i < zs.length → w.cell? (x.add i) = some (.int k (zs.getD i 0))) ∧ ∀ n ∈ zs, (Lit.int k n).wf = true
set_option maxRecDepth 100000 in
theorem lifted (os : Os) (started : os.Started) (H : Type) (enc : TypeId × Value → H) :
    ReturnsInHanded {} Tryd.checked os 3 .any (fun w args => (Rows.fnExactDecodeSpec.pre enc Tryd.prog Tryd.f3 [] false w args ∧ laidMetH Tryd.prog (XGlob.laidF (H := Unit)) w) ∧ sizedMet enc Tryd.prog Tryd.f3 (OpenSpec.ofChange Rows.fnExactDecodeSpec) false w args) (Rows.fnExactDecodeSpec.post enc Tryd.prog Tryd.f3 false true false false) := by
  refine returnsInHanded_of_change_and (C := Tryd.checked) (X := fun w _ => laidMetH Tryd.prog (XGlob.laidF (H := Unit)) w) (fun _ _ _ hh h => h.of_heap hh) own started (by kernel_rfl) Tryd.func3
    (ChangeSpec.witness_shaped (enc := enc) (C := Tryd.checked) (os := os) (X := fun w _ => laidMetH Tryd.prog (XGlob.laidF (H := Unit)) w) false (World.doorLaid Tryd.prog 84 os) #[.slice none 0 0] 8 rfl (World.shaped_of_RefB (by kernel_rfl) (by kernel_rfl)) (by kernel_rfl) (by kernel_rfl) (by kernel_rfl) (XGlob.door_met os _)) ?_
  intro W base args ds gs before hval0 hW hcnd hsz0 hL _
  have hsz : (DataW.weightsEach Tryd.prog (Tryd.f3.params.toList ++ Rows.fnExactDecodeSpec.plain.varTypes Tryd.prog) (ds ++ gs)).all (· ≤ reachBytes) = true := hsz0
  have hval : ∀ (j : Nat) t v, Tryd.f3.params[j]? = some t → args[j]? = some v → Value.okWide Tryd.prog W .any base t v := hval0
  have hW' := hW
  obtain ⟨p, q, hA0, hV, rfl, hfz, hnd⟩ := hW
  have hA : DataW.TrodAll enc Tryd.prog W 0 (fun _ => true) true Tryd.f3.params.toList args.toList ds p := hA0
  rw [Tryd.params3] at hA hval hsz
  obtain ⟨v0, vs0, d0, ds0, p0, q0, hargs, rfl, rfl, h0, r0⟩ := trodAll_cons hA
  obtain ⟨rfl, rfl, rfl⟩ := trodAll_nil r0
  obtain rfl : args = #[v0] := by cases args; simp_all
  have hV2 := hV
  obtain ⟨gg, tt, cs, fuel, dg, pg, rfl, hg1, hg2, hg3, hg4, rfl⟩ := trodVars_one hV
  obtain ⟨a0, len0, cap0, rfl⟩ := okWide_slice Tryd.underlying22 (hval 0 22 v0 rfl rfl)
  have k0 := h0
  have lt0 : ∀ x ∈ p0, x.block < W.heap.size := by obtain ⟨m, hm⟩ := k0; exact DataW.trod_lt m _ _ _ hm
  obtain ⟨z0, w0⟩ : ∃ zs, IsRow .u8 W a0 len0 cap0 zs := by
    obtain ⟨fuel, hf⟩ := h0
    rcases open_ints Tryd.underlying22 Tryd.underlying5 (by kernel_rfl) hf with ⟨hcs, _⟩ | ⟨x, l, c, zs, hcs, _, hl, hm, hz, _, hcell, hwz⟩
    · simp [Value.cells] at hcs
      obtain ⟨rfl, rfl, rfl⟩ := hcs
      exact ⟨[], .inl ⟨rfl, rfl, rfl, rfl⟩⟩
    · simp [Value.cells] at hcs
      obtain ⟨rfl, rfl, rfl⟩ := hcs
      exact ⟨zs, .inr ⟨_, rfl, hl, hm, by simpa using hz, hcell, hwz⟩⟩
  have y0 : len0 * 1 ≤ 140737488351232 := Go.Proofs.YtcamchdenjpmhaaDoorW.PrintWords.sized_ints hsz (j := 0) (t := 22) rfl rfl Tryd.underlying22 Tryd.underlying5 (by kernel_rfl) (by kernel_rfl) h0
  clear hA0 hval0 hsz0 hsz
  refine (F.laws_FnExactDecode.walk Pure.FnExactDecode a0 len0 cap0 z0 W w0 y0 (XGlob.glob_of_laid hL)).mono fun e W' ⟨he, bel⟩ => ?_
  subst he
  exact ⟨_, rfl, _, _, _, [], _, _, hW', trodAll_mk1 (shut_bool Tryd.underlying4 _), (trodAll_cons_mk (Below.trod laidOut (by kernel_rfl) (of_decide_eq_true (by kernel_rfl)) k0 bel lt0) trodAll_mk0), bel.trodVars laidOut (by kernel_rfl) hV2, bel.frame _, fun h => by cases h⟩
theorem over : Rows.fnExactDecodeRow.holds Tryd.pinned (OpenSpec.ofChange Rows.fnExactDecodeSpec) :=
  OpenClaim.holds_of_wide 3 Tryd.f3 rfl rfl rfl rfl rfl rfl rfl ⟨rfl, rfl, rfl, rfl, rfl⟩ rfl rfl rfl rfl rfl (by kernel_rfl) Tryd.func3 (by kernel_rfl)
    (of_decide_eq_true (by kernel_rfl)) (by unfold Func.isWrapper; first | (rw [if_pos (by decide +kernel)]; kernel_rfl) | (rw [if_neg (by decide +kernel)]; exact ⟨rfl, rfl⟩))
    (fun os started H enc _ => lifted os started H enc)
end Go.Proofs.YtcamchdenjpmhaaDoor.fnExactDecode
namespace Go.Proofs.YtcamchdenjpmhaaDoor
open Go
/-- The tied card. -/
theorem fnExactDecode_holds : Rows.FnExactDecodeCardSaid :=
  Claim7.holds_tied_plain_at .later [] [.mapped] true (true, "a3425a019f4456fb1e58ada75e537013b3f05c3e9cfe5f08696757540c966be7") false
    fnExactDecode.over (fun _ h => by cases h) (by kernel_rfl) (fun _ h => by cases h) fnExactDecode_row_tie rfl ⟨rfl, rfl⟩ (by kernel_rfl) rfl
    (fun f fn hf hfn => by
      obtain rfl : f = 3 := Option.some.inj ((show Tryd.prog.funcNamed "loop.example/s01858/laws.FnExactDecode" = some 3 by kernel_rfl).symm.trans hf) |>.symm
      obtain rfl : fn = Tryd.f3 := (Option.some.inj (Tryd.func3.symm.trans hfn)).symm
      exact ⟨by kernel_rfl, fun j t ht => by
        rw [Tryd.params3] at ht
        have hm : t ∈ [22] := by simpa using Array.mem_of_getElem? ht
        have hall : ([22].all fun u => !Tryd.prog.wantsStandIn u) = true := by kernel_rfl
        exact (show Tryd.prog.wantsStandIn t = false by simpa using List.all_eq_true.1 hall t hm)⟩)
    (by kernel_rfl)
#print axioms fnExactDecode_holds
end Go.Proofs.YtcamchdenjpmhaaDoor
