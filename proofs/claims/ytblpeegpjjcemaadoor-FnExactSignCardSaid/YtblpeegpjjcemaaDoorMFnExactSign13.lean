/- Part 13 of 13 of the proof of FnExactSign: what each Go function on its way computes, that the Go code does just this, and what the law says of it. No condition beyond the statement's own. -/
import Derived.Lib.Bytes
import Derived.Lib.Bytealg
import Derived.Laws.BitsLemmas
import Derived.Test.YtblpeegpjjcemaaDoorRows
import Derived.Test.YtblpeegpjjcemaaDoorTie
import Derived.Test.YtblpeegpjjcemaaDoorCards
import Derived.WalkKit
import Derived.ProofKit
import Derived.OpenShut
import Derived.OpenVars
import Derived.ShutString
import Derived.ChangeOld
import Derived.Below
import Derived.SizedLaws
import Derived.Deep.Slices
import Derived.ChangeArms
import Derived.Test.YtblpeegpjjcemaaDoorMFnExactSign12
namespace Go.Proofs.YtblpeegpjjcemaaDoor.Base
open Go.RowKit Go.Proofs.YtblpeegpjjcemaaDoorW.PrintWords Go.Proofs.YtblpeegpjjcemaaDoorW.PrintMore

theorem w64 {x : Int} (h0 : -9223372036854775808 ≤ x) (h1 : x ≤ 9223372036854775807) : wrap64 x = x := by
  unfold wrap64
  omega

def L (s : ByteArray) : List UInt8 := s.data.toList
def B (l : List UInt8) : ByteArray := ⟨l.toArray⟩
theorem L_B (l : List UInt8) : L (B l) = l := by simp [L, B]
theorem B_L (s : ByteArray) : B (L s) = s := by simp [L, B]
theorem L_inj {a b : ByteArray} (h : L a = L b) : a = b := by rw [← B_L a, ← B_L b, h]
theorem size_L (s : ByteArray) : s.size = (L s).length := by simp [L]
theorem toL (s : ByteArray) : s.toList = L s := Lib.toList_data s
theorem L_extract (s : ByteArray) (i j : Nat) : L (s.extract i j) = ((L s).drop i).take (j - i) := by
  simp [L, ByteArray.data_extract]
theorem L_append (a b : ByteArray) : L (a ++ b) = L a ++ L b := by
  simp [L, ByteArray.data_append]
theorem bt_L (s : ByteArray) (i : Int) : bt s i = (((L s).getD i.toNat 0).toNat : Int) := by
  unfold bt
  split
  · rename_i h
    have h' : i.toNat < (L s).length := by rw [← size_L]; exact h
    rw [List.getD_eq_getElem?_getD, List.getElem?_eq_getElem h']
    rfl
  · rename_i h
    have h' : (L s).length ≤ i.toNat := by rw [← size_L]; omega
    rw [List.getD_eq_getElem?_getD, List.getElem?_eq_none h']
    rfl
theorem bt_mid {x : ByteArray} {p : List UInt8} {c : UInt8} {r : List UInt8} (h : L x = p ++ c :: r) {i : Int} (hi : i = (p.length : Int)) : bt x i = (c.toNat : Int) := by
  rw [bt_L, h, hi]
  simp [List.getD_eq_getElem?_getD]
theorem bt_cons {x : ByteArray} {c : UInt8} {r : List UInt8} (h : L x = c :: r) : bt x 0 = (c.toNat : Int) := bt_mid (p := []) h rfl
theorem L_strOfNums (xs : List Int) : L (strOfNums xs) = xs.map fun n => UInt8.ofNat n.toNat := by simp [L, strOfNums]
theorem byte_le (c : UInt8) : (c.toNat : Int) ≤ 255 := by have := c.toNat_lt; omega
theorem drop_len {α : Type} (p t : List α) (k : Nat) : (p ++ t).drop (p.length + k) = t.drop k := by
  rw [List.drop_append, List.drop_eq_nil_of_le (by omega), List.nil_append, Nat.add_sub_cancel_left]
/-- The labels of a name's bytes; none: they are no name (but for the limit on the whole). -/
def labs : List UInt8 → Option (List ByteArray)
  | [] => none
  | c :: r => if c.toNat = 0 then (if r = [] then some [] else none) else if 63 < c.toNat then none else if r.length < c.toNat then none else (labs (r.drop c.toNat)).map (B (r.take c.toNat) :: ·)
  termination_by l => l.length
  decreasing_by simp; omega

/-- The labels of a name. -/
def names (l : List UInt8) : Option (List ByteArray) := if l.length < 1 ∨ 255 < l.length then none else labs l

/-- What a cut in labels answers that had come to some. -/
def res (acc : List ByteArray) : Option (List ByteArray) → List ByteArray × Bool
  | none => ([], false)
  | some ls => (acc ++ ls, true)
theorem res_map (acc : List ByteArray) (b : ByteArray) (o : Option (List ByteArray)) : res acc (o.map (b :: ·)) = res (acc ++ [b]) o := by
  cases o <;> simp [res]

/-- What the other cut in labels leaves where it fails. -/
def jk (acc : List ByteArray) : List UInt8 → List ByteArray
  | [] => []
  | c :: r => if c.toNat = 0 then acc else if 63 < c.toNat then [] else if r.length < c.toNat then [] else jk (acc ++ [B (r.take c.toNat)]) (r.drop c.toNat)
  termination_by l => l.length
  decreasing_by simp; omega
def res2 (acc : List ByteArray) (l : List UInt8) : List ByteArray × Bool := match labs l with
  | none => (jk acc l, false)
  | some ls => (acc ++ ls, true)
end Go.Proofs.YtblpeegpjjcemaaDoor.Base
namespace Go.Proofs.YtblpeegpjjcemaaDoor.Base
open Go Go.RowKit Go.Proofs.YtblpeegpjjcemaaDoorW.PrintWords Go.Proofs.YtblpeegpjjcemaaDoorW.PrintMore

def low (c : UInt8) : UInt8 := if 65 ≤ c.toNat ∧ c.toNat ≤ 90 then UInt8.ofNat (c.toNat + 32) else c
theorem low_toNat (c : UInt8) : (low c).toNat = if 65 ≤ c.toNat ∧ c.toNat ≤ 90 then c.toNat + 32 else c.toNat := by
  unfold low
  split
  · rw [UInt8.toNat_ofNat']
    omega
  · rfl
theorem low_small {c : UInt8} (h : c.toNat ≤ 64) : low c = c := by
  unfold low
  rw [if_neg (by omega)]
def foldB (s : ByteArray) : ByteArray := B ((L s).map low)
theorem L_foldB (s : ByteArray) : L (foldB s) = (L s).map low := L_B _
theorem foldB_size (s : ByteArray) : (foldB s).size = s.size := by rw [size_L, size_L, L_foldB, List.length_map]
def joinL (ls : List ByteArray) : List UInt8 := ls.flatMap fun s => UInt8.ofNat s.size :: L s
def join (ls : List ByteArray) : ByteArray := B (joinL ls ++ [0])
theorem joinL_cons (s : ByteArray) (t : List ByteArray) : joinL (s :: t) = UInt8.ofNat s.size :: (L s ++ joinL t) := by simp [joinL]
theorem L_join (ls : List ByteArray) : L (join ls) = joinL ls ++ [0] := L_B _
/-- A name's bytes are its labels joined, and each label has from 1 to 63 bytes. -/
theorem labs_join : ∀ (n : Nat) (l : List UInt8), l.length ≤ n → ∀ ls, labs l = some ls → l = joinL ls ++ [0] ∧ ∀ s ∈ ls, 1 ≤ s.size ∧ s.size ≤ 63 := by
  intro n
  induction n with
  | zero =>
    intro l hl ls h
    obtain rfl : l = [] := List.length_eq_zero_iff.1 (by omega)
    simp [labs] at h
  | succ n ih =>
    intro l hl ls h
    cases l with
    | nil => simp [labs] at h
    | cons c r =>
      simp only [List.length_cons] at hl
      rw [labs] at h
      by_cases h0 : c.toNat = 0
      · rw [if_pos h0] at h
        by_cases hr : r = []
        · rw [if_pos hr] at h
          obtain rfl := Option.some.inj h
          subst hr
          have : c = 0 := UInt8.toNat_inj.1 h0
          subst this
          exact ⟨by simp [joinL], by simp⟩
        · rw [if_neg hr] at h; cases h
      · rw [if_neg h0] at h
        by_cases h63 : 63 < c.toNat
        · rw [if_pos h63] at h; cases h
        · rw [if_neg h63] at h
          by_cases hl2 : r.length < c.toNat
          · rw [if_pos hl2] at h; cases h
          · rw [if_neg hl2] at h
            obtain ⟨t, ht, rfl⟩ := Option.map_eq_some_iff.1 h
            obtain ⟨h1, h2⟩ := ih (r.drop c.toNat) (by simp; omega) t ht
            have hs : (B (r.take c.toNat)).size = c.toNat := by rw [size_L, L_B, List.length_take]; omega
            refine ⟨?_, ?_⟩
            · rw [joinL_cons, hs, L_B, List.cons_append, List.append_assoc, ← h1, List.take_append_drop]
              simp
            · intro s hm
              rcases List.mem_cons.1 hm with rfl | hm
              · rw [hs]; omega
              · exact h2 s hm
theorem names_join {l : List UInt8} {ls : List ByteArray} (h : names l = some ls) : l = joinL ls ++ [0] ∧ (∀ s ∈ ls, 1 ≤ s.size ∧ s.size ≤ 63) ∧ l.length ≤ 255 := by
  unfold names at h
  split at h
  · cases h
  · obtain ⟨h1, h2⟩ := labs_join _ l (Nat.le_refl _) ls h
    exact ⟨h1, h2, by omega⟩
theorem joinL_fold : ∀ (ls : List ByteArray), (∀ s ∈ ls, s.size ≤ 63) → (joinL ls).map low = joinL (ls.map foldB) := by
  intro ls
  induction ls with
  | nil => intro _; simp [joinL]
  | cons s t ih =>
    intro h
    have hs := h s (by simp)
    rw [joinL_cons, List.map_cons, List.map_append, ih fun x hx => h x (by simp [hx]), List.map_cons, joinL_cons, foldB_size, L_foldB, low_small (by rw [UInt8.toNat_ofNat']; omega)]
theorem fold_join {ls : List ByteArray} (h : ∀ s ∈ ls, s.size ≤ 63) : foldB (join ls) = join (ls.map foldB) := by
  apply L_inj
  rw [L_foldB, L_join, L_join, List.map_append, joinL_fold ls h]
  simp [low_small]
theorem join_names {a : ByteArray} {ls : List ByteArray} (h : names (L a) = some ls) : join ls = a := L_inj (by rw [L_join, ← (names_join h).1])
theorem mem_size {ls : List ByteArray} (h : ∀ s ∈ ls, 1 ≤ s.size ∧ s.size ≤ 63) : ∀ s ∈ ls, s.size ≤ 63 := fun s hs => (h s hs).2
theorem joinL_len_fold (ls : List ByteArray) : (joinL (ls.map foldB)).length = (joinL ls).length := by
  induction ls with
  | nil => rfl
  | cons s t ih => rw [List.map_cons, joinL_cons, joinL_cons]; simp [ih, L_foldB]
theorem joinL_len_ge (ls : List ByteArray) : ls.length ≤ (joinL ls).length := by
  induction ls with
  | nil => simp
  | cons s t ih => rw [joinL_cons]; simp; omega
theorem mem_len_le {ls : List ByteArray} {s : ByteArray} (h : s ∈ ls) : s.size ≤ (joinL ls).length := by
  induction ls with
  | nil => cases h
  | cons x t ih =>
    rw [joinL_cons, size_L]
    rcases List.mem_cons.1 h with rfl | h
    · simp; omega
    · have := ih h
      rw [size_L] at this
      simp; omega
def sameN (a b : ByteArray) : Bool := (names (L a)).isSome && ((names (L b)).isSome && (L (foldB a) == L (foldB b)))
/-- A name without its first labels. -/
def ancN (o : Option (List ByteArray)) (n : Int) : ByteArray × Int := match o with
  | none => (⟨#[]⟩, 32)
  | some ls => if n < 0 ∨ n > (ls.length : Int) then (⟨#[]⟩, 32) else (join (ls.drop n.toNat), 0)
/-- The order of two names by their labels from the right, given turned round. -/
def cmpR : List ByteArray → List ByteArray → Int
  | [], [] => 0
  | [], _ :: _ => -1
  | _ :: _, [] => 1
  | a :: x, b :: y => if Lib.compareBytes (L (foldB a)) (L (foldB b)) = 0 then cmpR x y else Lib.compareBytes (L (foldB a)) (L (foldB b))
/-- The order of two names. -/
def cmpN (a b : ByteArray) : Int := match names (L a), names (L b) with
  | some x, some y => cmpR x.reverse y.reverse
  | _, _ => 0
/-- The name that labels make. -/
def mkN (ls : List ByteArray) : ByteArray × Int := if 127 < ls.length then (⟨#[]⟩, 3) else if ∃ s ∈ ls, s.size < 1 ∨ 63 < s.size then (⟨#[]⟩, 2) else if 255 < (joinL ls).length + 1 then (⟨#[]⟩, 3) else (join ls, 0)
def GoodL (ls : List ByteArray) : Prop := ∀ s ∈ ls, 1 ≤ s.size ∧ s.size ≤ 63
theorem GoodL.drop {x : List ByteArray} (hx : GoodL x) (n : Nat) : GoodL (x.drop n) := fun s hs => hx s (List.mem_of_mem_drop hs)
theorem GoodL.take {x : List ByteArray} (hx : GoodL x) (n : Nat) : GoodL (x.take n) := fun s hs => hx s (List.mem_of_mem_take hs)
theorem GoodL.append {x y : List ByteArray} (hx : GoodL x) (hy : GoodL y) : GoodL (x ++ y) := fun s hs => (List.mem_append.1 hs).elim (hx s) (hy s)
/-- The name of good labels. -/
def mkG (ls : List ByteArray) : ByteArray × Int := if 255 < (joinL ls).length + 1 then (⟨#[]⟩, 3) else (join ls, 0)
/-- Is a name another one or below it: by their labels. -/
def underL (x y : List ByteArray) : Bool := decide (y.length ≤ x.length ∧ (x.drop (x.length - y.length)).map foldB = y.map foldB)
def underN (a b : ByteArray) : Bool := match names (L a), names (L b) with
  | some x, some y => underL x y
  | _, _ => false
/-- A name put below another one. -/
def tailN (a b c : ByteArray) : ByteArray × Int := match names (L a), names (L b), names (L c) with
  | some x, some y, some z => if underL x y = true ∧ x.length ≠ y.length then mkG (x.take (x.length - y.length) ++ z) else (⟨#[]⟩, 22)
  | _, _, _ => (⟨#[]⟩, 32)
end Go.Proofs.YtblpeegpjjcemaaDoor.Base
namespace Go.Proofs.YtblpeegpjjcemaaDoor.Base
open Go.RowKit Go.Proofs.YtblpeegpjjcemaaDoorW.PrintWords Go.Proofs.YtblpeegpjjcemaaDoorW.PrintLast
/-- The number of some bytes behind a number. -/
def num (n : Int) : List UInt8 → Int
  | [] => n
  | c :: r => num (n * 256 + c.toNat) r
end Go.Proofs.YtblpeegpjjcemaaDoor.Base
namespace Go.Proofs.YtblpeegpjjcemaaDoor.Base
open Go Go.RowKit Go.Proofs.YtblpeegpjjcemaaDoorW.PrintWords Go.Proofs.YtblpeegpjjcemaaDoorW.PrintMore

def Bytes (b : List Int) : Prop := ∀ x ∈ b, 0 ≤ x ∧ x ≤ 255
theorem Bytes.rd {b : List Int} (h : Bytes b) (i : Int) : 0 ≤ rd b i ∧ rd b i ≤ 255 := by
  unfold Go.Proofs.YtblpeegpjjcemaaDoorW.PrintWords.rd
  rw [List.getD_eq_getElem?_getD]
  by_cases hi : i.toNat < b.length
  · rw [List.getElem?_eq_getElem hi]
    exact h _ (List.getElem_mem _)
  · rw [List.getElem?_eq_none (by omega)]
    simp
theorem wraps_i64 (n : Int) (h₀ : 0 ≤ n) (h₁ : n < 2 ^ 63) : IntKind.i64.wrap n = n := by rw [IntKind.wrap_i64]; omega
theorem p63 : (2 : Int) ^ 63 = 9223372036854775808 := by decide
theorem i64_or8 (x y : Int) (hx : 0 ≤ x) (hx2 : x % 256 = 0) (hx1 : x ≤ 100000) (h0 : 0 ≤ y) (h1 : y < 256) : bits .or .i64 x y = x + y := bits_join .i64 63 (by decide) wraps_i64 8 x y hx (by rw [show (2 : Int) ^ 8 = 256 from by decide]; exact hx2) (by rw [p63]; omega) h0 (by rw [show (2 : Int) ^ 8 = 256 from by decide]; exact h1) (by rw [p63]; omega)
/-- A label's bytes out of a message. -/
def lab (b : List Int) (at_ n : Int) : ByteArray := strOfNums ((b.take (at_ + 1 + n).toNat).drop (at_ + 1).toNat)
/-- A name within a message's bytes: its bytes, the place behind it, a code. start: where this part of it began; next: the place behind it, if it is known. -/
def dn (b : List Int) : Nat → Int → Int → Int → List ByteArray → ByteArray × Int × Int
  | 0, _, _, _, _ => (⟨#[]⟩, 0, 0)
  | f + 1, p, start, next, ls =>
    if p ≥ (b.length : Int) then (⟨#[]⟩, 0, 8) else
    if rd b p = 0 then (join ls, if next < 0 then p + 1 else next, 0) else
    if rd b p ≥ 192 then (if p + 1 ≥ (b.length : Int) then (⟨#[]⟩, 0, 8) else
      if (rd b p - 192) * 256 + rd b (p + 1) ≥ start then (⟨#[]⟩, 0, 9) else
      dn b f ((rd b p - 192) * 256 + rd b (p + 1)) ((rd b p - 192) * 256 + rd b (p + 1)) (if next < 0 then p + 2 else next) ls) else
    if rd b p > 63 then (⟨#[]⟩, 0, 2) else
    if p + 1 + rd b p > (b.length : Int) then (⟨#[]⟩, 0, 8) else
    if ((joinL ls).length : Int) + 2 + rd b p > 255 then (⟨#[]⟩, 0, 3) else
    dn b f (p + 1 + rd b p) start next (ls ++ [lab b p (rd b p)])
def decN (b : List Int) (p : Int) : ByteArray × Int × Int := if p < 0 ∨ p > (b.length : Int) then (⟨#[]⟩, 0, 32) else dn b (b.length + 300) p p (-1) []
end Go.Proofs.YtblpeegpjjcemaaDoor.Base
namespace Go.Proofs.YtblpeegpjjcemaaDoor.Pure
open Go.RowKit Go.Proofs.YtblpeegpjjcemaaDoor.F Go.Proofs.YtblpeegpjjcemaaDoor.Base Go.Proofs.YtblpeegpjjcemaaDoorW.PrintWords Go.Proofs.YtblpeegpjjcemaaDoorW.PrintLast Go.Proofs.YtblpeegpjjcemaaDoorW.PrintMore
set_option linter.unusedVariables false
set_option linter.unusedSimpArgs false
theorem impl_labelsOf_l0 (x : ByteArray) (hx255 : x.size ≤ 255) : ∀ (n k : Nat) (acc : List ByteArray) (p r : List UInt8), L x = p ++ r → r.length ≤ n → n < k → acc.length + r.length ≤ 300 → impl_labelsOf.l0 k x acc (p.length : Int) = some (res2 acc r) := by
  intro n
  induction n with
  | zero =>
    intro k acc p r hx hn hk hb
    obtain ⟨k, rfl⟩ : ∃ m, k = m + 1 := ⟨k - 1, by omega⟩
    obtain rfl : r = [] := List.length_eq_zero_iff.1 (by omega)
    have hs := size_L x
    rw [hx] at hs
    simp only [List.append_nil] at hs
    simp only [impl_labelsOf.l0]
    rw [if_neg (by omega)]
    simp [res2, labs, jk]
  | succ n ih =>
    intro k acc p r hx hn hk hb
    obtain ⟨k, rfl⟩ : ∃ m, k = m + 1 := ⟨k - 1, by omega⟩
    have hs := size_L x
    rw [hx] at hs
    simp only [impl_labelsOf.l0]
    cases r with
    | nil =>
      simp only [List.append_nil] at hs
      rw [if_neg (by omega)]
      simp [res2, labs, jk]
    | cons c r =>
      simp only [List.length_append, List.length_cons] at hs hn hb
      have hc := byte_le c
      rw [bt_mid hx rfl, if_pos (by omega), if_pos (by omega)]
      simp (maxSteps := 10000000) (disch := omega) only [w64]
      have hL := labs.eq_2 c r
      have hJ := jk.eq_2 acc c r
      unfold res2
      rw [hL, hJ]
      clear hL hJ
      by_cases h0 : c.toNat = 0
      · rw [if_pos (by omega), if_pos h0, if_pos h0]
        by_cases hr : r = []
        · rw [if_pos hr]
          subst hr
          simp at hs
          simp; omega
        · rw [if_neg hr]
          have : r.length ≠ 0 := fun h => hr (List.length_eq_zero_iff.1 h)
          simp; omega
      · rw [if_neg (by omega), if_neg h0, if_neg h0]
        by_cases h63 : 63 < c.toNat
        · rw [if_pos (by omega), if_pos h63, if_pos h63]
        · rw [if_neg (by omega), if_neg h63, if_neg h63]
          by_cases hl : r.length < c.toNat
          · rw [if_pos (by omega), if_pos hl, if_pos hl]
          · rw [if_neg (by omega), if_neg hl, if_neg hl, if_pos (by omega), if_pos (by omega), if_pos (by omega), if_pos (by omega)]
            have e0 : ((p.length : Int) + 1).toNat = p.length + 1 := by omega
            have e0' : ((p.length : Int) + 1 + (c.toNat : Int)).toNat = p.length + 1 + c.toNat := by omega
            rw [e0, e0']
            have e1 : x.extract (p.length + 1) (p.length + 1 + c.toNat) = B (r.take c.toNat) := L_inj (by
              rw [L_extract, hx, L_B, drop_len]
              simp)
            have e2 : (p.length : Int) + (1 + (c.toNat : Int)) = ((p ++ c :: r.take c.toNat).length : Int) := by
              simp [List.length_take]; omega
            rw [e1, e2, ih k _ (p ++ c :: r.take c.toNat) (r.drop c.toNat) (by rw [hx]; simp) (by simp; omega) (by omega) (by simp; omega)]
            unfold res2
            cases labs (List.drop c.toNat r) <;> simp
theorem impl_labelsOf_eq (a : ByteArray) (k : Nat) (hk : 400 ≤ k) : impl_labelsOf.f k a = some (match names (L a) with | none => ((impl_labelsOf.f 400 a).getD ([], false)) | some ls => (ls, true)) ∧ (names (L a) = none → ((impl_labelsOf.f 400 a).getD ([], false)).2 = false) := by
  have hs := size_L a
  have key : ∀ k, 400 ≤ k → impl_labelsOf.f k a = if 255 < (L a).length then some ([], false) else some (res2 [] (L a)) := by
    intro k hk
    unfold impl_labelsOf.f
    by_cases h2 : 255 < (L a).length
    · rw [if_pos (by omega), if_pos h2]
    · rw [if_neg (by omega), if_neg h2]
      exact impl_labelsOf_l0 a (by omega) (L a).length k [] [] (L a) rfl (Nat.le_refl _) (by omega) (by simp; omega)
  rw [key k hk, key 400 (Nat.le_refl _)]
  unfold names
  by_cases h1 : (L a).length < 1
  · have h0 : L a = [] := List.length_eq_zero_iff.1 (by omega)
    rw [if_neg (by omega), if_pos (by omega), h0]
    simp [res2, labs, jk]
  · by_cases h2 : 255 < (L a).length
    · rw [if_pos h2, if_pos (by omega)]; simp
    · rw [if_neg h2, if_neg (by omega)]
      unfold res2
      cases labs (L a) <;> simp
theorem impl_labelsOf_some {a : ByteArray} {ls : List ByteArray} (h : names (L a) = some ls) (k : Nat) (hk : 400 ≤ k) : impl_labelsOf.f k a = some (ls, true) := by
  have := (impl_labelsOf_eq a k hk).1
  rw [h] at this
  exact this
theorem impl_labelsOf_none {a : ByteArray} (h : names (L a) = none) (k : Nat) (hk : 400 ≤ k) : impl_labelsOf.f k a = some (((impl_labelsOf.f 400 a).getD ([], false)).1, false) := by
  obtain ⟨h1, h2⟩ := impl_labelsOf_eq a k hk
  rw [h] at h1
  rw [h1]
  exact congrArg some (Prod.ext rfl (h2 h))

end Go.Proofs.YtblpeegpjjcemaaDoor.Pure
namespace Go.Proofs.YtblpeegpjjcemaaDoor.Pure
open Go.RowKit Go.Proofs.YtblpeegpjjcemaaDoor.F Go.Proofs.YtblpeegpjjcemaaDoor.Base Go.Proofs.YtblpeegpjjcemaaDoorW.PrintWords Go.Proofs.YtblpeegpjjcemaaDoorW.PrintLast Go.Proofs.YtblpeegpjjcemaaDoorW.PrintMore
set_option linter.unusedVariables false
set_option linter.unusedSimpArgs false
theorem impl_NameOK_eq (a : ByteArray) (k : Nat) (hk : 400 ≤ k) : impl_NameOK.f k a = some (names (L a)).isSome := by
  unfold impl_NameOK.f
  cases h : names (L a) with
  | none => rw [impl_labelsOf_none h k hk]; simp
  | some ls => rw [impl_labelsOf_some h k hk]; simp

end Go.Proofs.YtblpeegpjjcemaaDoor.Pure
namespace Go.Proofs.YtblpeegpjjcemaaDoor.Pure
open Go.RowKit Go.Proofs.YtblpeegpjjcemaaDoor.F Go.Proofs.YtblpeegpjjcemaaDoor.Base Go.Proofs.YtblpeegpjjcemaaDoorW.PrintWords Go.Proofs.YtblpeegpjjcemaaDoorW.PrintLast Go.Proofs.YtblpeegpjjcemaaDoorW.PrintMore
set_option linter.unusedVariables false
set_option linter.unusedSimpArgs false
-- base: BaseNum
/-- The bytes of a number, the high one first. -/
def be (n : Int) (w : Nat) : List Int := (List.range w).reverse.map fun (i : Nat) => n / 2 ^ (8 * i) % 256
theorem be_succ (n : Int) (w : Nat) : be n (w + 1) = n / 2 ^ (8 * w) % 256 :: be n w := by
  unfold be
  rw [List.range_succ, List.reverse_append]
  rfl
theorem be_length (n : Int) (w : Nat) : (be n w).length = w := by simp [be]
theorem spec_l02Put_l0 (n : Int) : ∀ (d k : Nat) (out : List Int), d ≤ 8 → d < k → out.length + d ≤ 100 → spec_l02Put.l0 k n out ((d : Int) - 1) = some (strOfNums (out ++ be n d)) := by
  intro d
  induction d with
  | zero =>
    intro k out _ hk _
    obtain ⟨k, rfl⟩ : ∃ m, k = m + 1 := ⟨k - 1, by omega⟩
    rw [spec_l02Put.l0, if_neg (by omega)]
    simp [be]
  | succ d ih =>
    intro k out hd hk ho
    obtain ⟨k, rfl⟩ : ∃ m, k = m + 1 := ⟨k - 1, by omega⟩
    have e0 : ((d + 1 : Nat) : Int) - 1 = (d : Int) := by omega
    have e1 : Go.IntKind.u64.wrap (wrap64 (8 * (d : Int))) = ((8 * d : Nat) : Int) := by
      rw [w64 (by omega) (by omega), Go.IntKind.wrap_u64]
      omega
    have e2 : shr .i64 n ((8 * d : Nat) : Int) = n / 2 ^ (8 * d) := by
      unfold shr
      rw [Int.toNat_natCast, Nat.min_eq_left (by show 8 * d ≤ 64; omega)]
    rw [spec_l02Put.l0, e0, if_pos (by omega), e1, if_pos (by omega), if_pos (by omega), e2, w64 (by omega) (by omega), ih k _ (by omega) (by omega) (by simp; omega), be_succ]
    simp
theorem spec_l02Put_eq (n : Int) (w : Nat) (hw : w ≤ 8) (k : Nat) (hk : w < k) : spec_l02Put.f k n (w : Int) = some (strOfNums (be n w)) := by
  unfold spec_l02Put.f
  rw [w64 (by omega) (by omega), spec_l02Put_l0 n w k [] hw hk (by simp; omega)]
  simp

end Go.Proofs.YtblpeegpjjcemaaDoor.Pure
namespace Go.Proofs.YtblpeegpjjcemaaDoor.Pure
open Go.RowKit Go.Proofs.YtblpeegpjjcemaaDoor.F Go.Proofs.YtblpeegpjjcemaaDoor.Base Go.Proofs.YtblpeegpjjcemaaDoorW.PrintWords Go.Proofs.YtblpeegpjjcemaaDoorW.PrintLast Go.Proofs.YtblpeegpjjcemaaDoorW.PrintMore
set_option linter.unusedVariables false
set_option linter.unusedSimpArgs false
theorem be4 (n : Int) : be n 4 = [n / 16777216 % 256, n / 65536 % 256, n / 256 % 256, n % 256] := by
  show [n / 2 ^ 24 % 256, n / 2 ^ 16 % 256, n / 2 ^ 8 % 256, n / 2 ^ 0 % 256] = _
  have p8 : (2 : Int) ^ 8 = 256 := by decide
  have p16 : (2 : Int) ^ 16 = 65536 := by decide
  have p24 : (2 : Int) ^ 24 = 16777216 := by decide
  have p0 : (2 : Int) ^ 0 = 1 := by decide
  rw [p8, p16, p24, p0, Int.ediv_one]
theorem impl_p32_eq (n : Int) (h0 : 0 ≤ n) (h1 : n ≤ 4294967295) : impl_p32.f n = some (strOfNums (be n 4)) := by
  unfold impl_p32.f
  rw [be4, Int.emod_eq_of_lt (a := n) (b := 4294967296) h0 (by omega), Int.emod_eq_of_lt (a := n / 16777216) (b := 256) (by omega) (by omega)]

end Go.Proofs.YtblpeegpjjcemaaDoor.Pure
namespace Go.Proofs.YtblpeegpjjcemaaDoor.Pure
open Go.RowKit Go.Proofs.YtblpeegpjjcemaaDoor.F Go.Proofs.YtblpeegpjjcemaaDoor.Base Go.Proofs.YtblpeegpjjcemaaDoorW.PrintWords Go.Proofs.YtblpeegpjjcemaaDoorW.PrintLast Go.Proofs.YtblpeegpjjcemaaDoorW.PrintMore
set_option linter.unusedVariables false
set_option linter.unusedSimpArgs false
-- base: BaseName
theorem impl_fold_eq (a : ByteArray) (ha : a.size ≤ 140737488355328) : impl_fold.f a = some (foldB a) := by
  unfold impl_fold.f
  rw [if_pos ha]
  congr 1
  apply L_inj
  rw [L_strOfNums, L_foldB, bytesOf, List.map_map, List.map_map]
  apply List.map_congr_left
  intro c _
  simp only [Function.comp, low8]
  unfold low
  by_cases h : 65 ≤ c.toNat ∧ c.toNat ≤ 90
  · rw [if_pos (by omega), if_pos h, show ((c.toNat : Int) + 32).toNat = c.toNat + 32 from by omega]
  · rw [if_neg (by omega), if_neg h]
    simp

end Go.Proofs.YtblpeegpjjcemaaDoor.Pure
namespace Go.Proofs.YtblpeegpjjcemaaDoor.Pure
open Go.RowKit Go.Proofs.YtblpeegpjjcemaaDoor.F Go.Proofs.YtblpeegpjjcemaaDoor.Base Go.Proofs.YtblpeegpjjcemaaDoorW.PrintWords Go.Proofs.YtblpeegpjjcemaaDoorW.PrintLast Go.Proofs.YtblpeegpjjcemaaDoorW.PrintMore
set_option linter.unusedVariables false
set_option linter.unusedSimpArgs false
-- base: BaseName
theorem spec_l01Join_eq (l : List ByteArray) (hb : (joinL l).length ≤ 1000000000) : spec_l01Join.f l = some (join l) := by
  have hll := joinL_len_ge l
  have e : joinS l = joinL l := rfl
  unfold spec_l01Join.f
  rw [e, if_pos (by omega)]
  rfl

end Go.Proofs.YtblpeegpjjcemaaDoor.Pure
namespace Go.Proofs.YtblpeegpjjcemaaDoor.Pure
open Go.RowKit Go.Proofs.YtblpeegpjjcemaaDoor.F Go.Proofs.YtblpeegpjjcemaaDoor.Base Go.Proofs.YtblpeegpjjcemaaDoorW.PrintWords Go.Proofs.YtblpeegpjjcemaaDoorW.PrintLast Go.Proofs.YtblpeegpjjcemaaDoorW.PrintMore
set_option linter.unusedVariables false
set_option linter.unusedSimpArgs false
-- base: BaseName
theorem spec_l01Small_l0 (x : ByteArray) (hx0 : x.size ≤ 1048576) : ∀ (n k : Nat) (acc : List Int) (p r : List UInt8), L x = p ++ r → r.length ≤ n → n < k → acc.length + r.length ≤ 1048576 → spec_l01Small.l0 k x acc (p.length : Int) = some (strOfNums (acc ++ r.map fun c => ((low c).toNat : Int))) := by
  intro n
  induction n with
  | zero =>
    intro k acc p r hx hn hk hb
    obtain ⟨k, rfl⟩ : ∃ m, k = m + 1 := ⟨k - 1, by omega⟩
    obtain rfl : r = [] := List.length_eq_zero_iff.1 (by omega)
    have hs := size_L x
    rw [hx] at hs
    simp only [List.append_nil] at hs
    rw [spec_l01Small.l0, if_neg (by omega)]
    simp
  | succ n ih =>
    intro k acc p r hx hn hk hb
    obtain ⟨k, rfl⟩ : ∃ m, k = m + 1 := ⟨k - 1, by omega⟩
    have hs := size_L x
    rw [hx] at hs
    rw [spec_l01Small.l0]
    cases r with
    | nil =>
      simp only [List.append_nil] at hs
      rw [if_neg (by omega)]
      simp
    | cons c r =>
      simp only [List.length_append, List.length_cons] at hs hn hb
      have hc := byte_le c
      rw [if_pos (by omega), if_pos (by omega), bt_mid hx rfl, w64 (by omega) (by omega)]
      have key : ∀ v : Int, v = ((low c).toNat : Int) → (if acc.length < 140737488355328 then spec_l01Small.l0 k x (acc ++ [v]) ((p.length : Int) + 1) else none) = some (strOfNums (acc ++ (c :: r).map fun c => ((low c).toNat : Int))) := by
        intro v hv
        rw [if_pos (by omega), show (p.length : Int) + 1 = ((p ++ [c]).length : Int) by simp, ih k _ (p ++ [c]) r (by rw [hx]; simp) (by omega) (by omega) (by simp; omega), hv]
        simp
      have hlow := low_toNat c
      by_cases h1 : (c.toNat : Int) ≥ 65
      · rw [if_pos h1]
        by_cases h2 : (c.toNat : Int) ≤ 90
        · rw [if_pos h2]
          rw [if_pos (by omega)] at hlow
          exact key _ (by omega)
        · rw [if_neg h2]
          rw [if_neg (by omega)] at hlow
          exact key _ (by omega)
      · rw [if_neg h1]
        rw [if_neg (by omega)] at hlow
        exact key _ (by omega)
theorem spec_l01Small_eq (a : ByteArray) (ha : a.size ≤ 1048576) (k : Nat) (hk : a.size < k) : spec_l01Small.f k a = some (foldB a) := by
  have hs := size_L a
  unfold spec_l01Small.f
  have h := spec_l01Small_l0 a ha (L a).length k [] [] (L a) rfl (Nat.le_refl _) (by omega) (by simp; omega)
  rw [show (([] : List UInt8).length : Int) = 0 from rfl] at h
  rw [h]
  congr 1
  apply L_inj
  rw [L_strOfNums, L_foldB]
  simp

end Go.Proofs.YtblpeegpjjcemaaDoor.Pure
namespace Go.Proofs.YtblpeegpjjcemaaDoor.Pure
open Go.RowKit Go.Proofs.YtblpeegpjjcemaaDoor.F Go.Proofs.YtblpeegpjjcemaaDoor.Base Go.Proofs.YtblpeegpjjcemaaDoorW.PrintWords Go.Proofs.YtblpeegpjjcemaaDoorW.PrintLast Go.Proofs.YtblpeegpjjcemaaDoorW.PrintMore
set_option linter.unusedVariables false
set_option linter.unusedSimpArgs false
theorem spec_l01Split_l0 : ∀ (n k : Nat) (acc : List ByteArray) (x : ByteArray), x.size ≤ n → n < k → acc.length + x.size ≤ 300 → spec_l01Split.l0 k acc x = some (res acc (labs (L x))) := by
  intro n
  induction n with
  | zero =>
    intro k acc x hn hk hb
    obtain ⟨k, rfl⟩ : ∃ m, k = m + 1 := ⟨k - 1, by omega⟩
    have hs := size_L x
    have hx : L x = [] := List.length_eq_zero_iff.1 (by omega)
    simp only [spec_l01Split.l0, toL]
    rw [if_pos hx, hx]
    simp [labs, res]
  | succ n ih =>
    intro k acc x hn hk hb
    obtain ⟨k, rfl⟩ : ∃ m, k = m + 1 := ⟨k - 1, by omega⟩
    have hs := size_L x
    simp only [spec_l01Split.l0, toL]
    cases hx : L x with
    | nil => rw [if_pos rfl]; simp [labs, res]
    | cons c r =>
      rw [hx] at hs
      simp only [List.length_cons] at hs
      have hc := byte_le c
      rw [bt_cons hx, if_neg (by simp), if_pos (by omega)]
      simp (maxSteps := 10000000) (disch := omega) only [w64]
      rw [labs]
      by_cases h0 : c.toNat = 0
      · rw [if_pos (by omega), if_pos h0]
        by_cases hr : r = []
        · rw [if_pos (by subst hr; simp at hs; omega), if_pos hr]; simp [res]
        · rw [if_neg (by intro h; exact hr (List.length_eq_zero_iff.1 (by omega))), if_neg hr]; simp [res]
      · rw [if_neg (by omega), if_neg h0]
        by_cases h63 : 63 < c.toNat
        · rw [if_pos (by omega), if_pos h63]; simp [res]
        · rw [if_neg (by omega), if_neg h63]
          by_cases hl : r.length < c.toNat
          · rw [if_pos (by omega), if_pos hl]; simp [res]
          · rw [if_neg (by omega), if_neg hl, if_pos (by omega), if_pos (by omega), if_pos (by omega), if_pos (by omega)]
            have e0 : ((c.toNat : Int) + 1).toNat = c.toNat + 1 := by omega
            rw [e0]
            have e1 : x.extract 1 (c.toNat + 1) = B (r.take c.toNat) := L_inj (by rw [L_extract, hx, L_B]; simp)
            have e2 : L (x.extract (c.toNat + 1) x.size) = r.drop c.toNat := by rw [L_extract, hx, hs]; simp [List.take_of_length_le]
            have e3 : (x.extract (c.toNat + 1) x.size).size = r.length - c.toNat := by rw [size_L, e2]; simp
            rw [ih k _ _ (by omega) (by omega) (by simp; omega), e1, e2, res_map]
theorem spec_l01Split_eq (a : ByteArray) (k : Nat) (hk : 400 ≤ k) : spec_l01Split.f k a = some (res [] (names (L a))) := by
  obtain ⟨k, rfl⟩ : ∃ m, k = m + 1 := ⟨k - 1, by omega⟩
  have hs := size_L a
  unfold spec_l01Split.f names
  simp only [Option.bind_some, spec_l01Split.j0]
  by_cases h1 : (L a).length < 1
  · rw [if_pos (by omega), if_pos trivial, if_pos (by omega)]; simp [res]
  · rw [if_neg (by omega)]
    by_cases h2 : 255 < (L a).length
    · rw [if_pos (by simp; omega), if_pos (by omega)]; simp [res]
    · rw [if_neg (by simp; omega), if_neg (by omega)]
      exact spec_l01Split_l0 a.size k [] a (Nat.le_refl _) (by omega) (by simp; omega)

end Go.Proofs.YtblpeegpjjcemaaDoor.Pure
namespace Go.Proofs.YtblpeegpjjcemaaDoor.Pure
open Go.RowKit Go.Proofs.YtblpeegpjjcemaaDoor.F Go.Proofs.YtblpeegpjjcemaaDoor.Base Go.Proofs.YtblpeegpjjcemaaDoorW.PrintWords Go.Proofs.YtblpeegpjjcemaaDoorW.PrintLast Go.Proofs.YtblpeegpjjcemaaDoorW.PrintMore
set_option linter.unusedVariables false
set_option linter.unusedSimpArgs false
-- base: BaseName
theorem spec_FoldName_l0 (l : List ByteArray) (hb : (joinL l).length ≤ 1000000) : ∀ (d k i : Nat), i + d = l.length → d + l.length + 1000000 < k → spec_FoldName.l0 k ((l.take i).map foldB ++ l.drop i) (i : Int) = some (join (l.map foldB)) := by
  have hll := joinL_len_ge l
  intro d
  induction d with
  | zero =>
    intro k i hi hk
    obtain ⟨k, rfl⟩ : ∃ m, k = m + 1 := ⟨k - 1, by omega⟩
    obtain rfl : i = l.length := by omega
    have e : (l.take l.length).map foldB ++ l.drop l.length = l.map foldB := by simp
    rw [spec_FoldName.l0, e, if_neg (by simp), spec_l01Join_eq _ (by rw [joinL_len_fold]; omega)]
    simp
  | succ d ih =>
    intro k i hi hk
    obtain ⟨k, rfl⟩ : ∃ m, k = m + 1 := ⟨k - 1, by omega⟩
    have hlen : ((l.take i).map foldB ++ l.drop i).length = l.length := by simp; omega
    have hel : rdOf ByteArray.empty ((l.take i).map foldB ++ l.drop i) (i : Int) = l[i]'(by omega) := by
      have hi' : i < l.length := by omega
      simp [rdOf, List.getD_eq_getElem?_getD, List.getElem?_append_right, Nat.min_eq_left (Nat.le_of_lt hi'), hi']
    have hm : l[i]'(by omega) ∈ l := List.getElem_mem _
    have hsz := mem_len_le hm
    rw [spec_FoldName.l0, if_pos (by omega), if_pos (by omega), hel, spec_l01Small_eq _ (by omega) k (by omega)]
    simp only [Option.bind_some]
    rw [w64 (by omega) (by omega)]
    have e : ((l.take i).map foldB ++ l.drop i).set (i : Int).toNat (foldB (l[i]'(by omega))) = (l.take (i + 1)).map foldB ++ l.drop (i + 1) := by
      rw [Int.toNat_natCast, List.set_append_right _ _ (by simp; omega), List.length_map, List.length_take, Nat.min_eq_left (by omega), Nat.sub_self, List.drop_eq_getElem_cons (by omega), List.set_cons_zero, List.take_succ_eq_append_getElem (by omega), List.map_append, List.append_assoc]
      simp
    rw [e]
    exact ih k (i + 1) (by omega) (by omega)
theorem spec_FoldName_eq (a : ByteArray) (k : Nat) (hk : 1100000 ≤ k) : spec_FoldName.f k a = some (if (names (L a)).isSome = true then foldB a else ⟨#[]⟩) := by
  unfold spec_FoldName.f
  rw [spec_l01Split_eq a k (by omega)]
  cases h : names (L a) with
  | none => simp [res]
  | some ls =>
    obtain ⟨h1, h2, h3⟩ := names_join h
    have hl : (joinL ls).length + 1 ≤ 255 := by rw [h1] at h3; simpa using h3
    have hll := joinL_len_ge ls
    simp only [res, Option.bind_some, if_true, List.nil_append, Option.isSome_some]
    have := spec_FoldName_l0 ls (by omega) ls.length k 0 (by omega) (by omega)
    simp only [List.take_zero, List.map_nil, List.nil_append, List.drop_zero] at this
    rw [show ((0 : Nat) : Int) = 0 from rfl] at this
    rw [this, ← fold_join (mem_size h2), join_names h]

end Go.Proofs.YtblpeegpjjcemaaDoor.Pure
namespace Go.Proofs.YtblpeegpjjcemaaDoor.Pure
open Go.RowKit Go.Proofs.YtblpeegpjjcemaaDoor.F Go.Proofs.YtblpeegpjjcemaaDoor.Base Go.Proofs.YtblpeegpjjcemaaDoorW.PrintWords Go.Proofs.YtblpeegpjjcemaaDoorW.PrintLast Go.Proofs.YtblpeegpjjcemaaDoorW.PrintMore
set_option linter.unusedVariables false
set_option linter.unusedSimpArgs false
-- base: BaseName BaseNum
def macB : ByteArray := ⟨#[11, 104, 109, 97, 99, 45, 115, 104, 97, 50, 53, 54, 0]⟩
theorem alg_eq : spec_l09Algorithm.f = some macB := by
  unfold spec_l09Algorithm.f
  rw [spec_l01Join_eq _ (by decide)]
  rfl
theorem names_le {a : ByteArray} (h : (names (L a)).isSome = true) : a.size ≤ 255 := by
  unfold names at h
  split at h
  · cases h
  · rw [size_L]; omega
/-- What the sum is taken of. -/
def sumT (n m t q : ByteArray) : ByteArray := B ((if q.toList = [] then [] else L (strOfNums (be (q.size : Int) 2)) ++ L q) ++ L m ++ L (foldB n) ++ [0, 255, 0, 0, 0, 0] ++ L macB ++ L t ++ [1, 44] ++ [0, 0, 0, 0])
theorem put_size (n : Int) (w : Nat) : (strOfNums (be n w)).size = w := by rw [size_L, L_strOfNums, List.length_map, be_length]
theorem bind_id {α : Type} (x : Option α) : (x.bind fun t => some t) = x := by cases x <;> rfl
theorem spec_l09Sum_eq (n s m t q : ByteArray) (hn : (names (L n)).isSome = true) (hm : m.size ≤ 1048576) (ht : t.size ≤ 6) (hq : q.size ≤ 32) (k : Nat) (hk : 1100000 ≤ k) : spec_l09Sum.f k n s m t (⟨#[1, 44]⟩ : ByteArray) q = xsum.f s (sumT n m t q) := by
  have hn2 := names_le hn
  have hf := foldB_size n
  have z0 : (⟨#[]⟩ : ByteArray).size = 0 := rfl
  have z2 : (⟨#[1, 44]⟩ : ByteArray).size = 2 := rfl
  have z6 : (⟨#[0, 255, 0, 0, 0, 0]⟩ : ByteArray).size = 6 := rfl
  have z13 : macB.size = 13 := rfl
  have z4 : (⟨#[0, 0, 0, 0]⟩ : ByteArray).size = 4 := rfl
  have zp := put_size (q.size : Int) 2
  have hput : spec_l02Put.f k (q.size : Int) 2 = some (strOfNums (be (q.size : Int) 2)) := spec_l02Put_eq _ 2 (by omega) k (by omega)
  unfold spec_l09Sum.f
  rw [spec_FoldName_eq n k hk, if_pos hn, alg_eq, hput]
  simp only [Option.bind_some, bind_id]
  by_cases h0 : q.toList = []
  · rw [if_pos h0]
    repeat rw [if_pos (by (try simp only [ByteArray.size_append]); omega)]
    congr 1
    apply L_inj
    unfold sumT
    rw [L_B, if_pos h0]
    simp only [L_append]
    simp [L]
  · rw [if_neg h0]
    repeat rw [if_pos (by (try simp only [ByteArray.size_append]); omega)]
    congr 1
    apply L_inj
    unfold sumT
    rw [L_B, if_neg h0]
    simp only [L_append]
    simp [L]

end Go.Proofs.YtblpeegpjjcemaaDoor.Pure
namespace Go.Proofs.YtblpeegpjjcemaaDoor.Pure
open Go.RowKit Go.Proofs.YtblpeegpjjcemaaDoor.F Go.Proofs.YtblpeegpjjcemaaDoor.Base Go.Proofs.YtblpeegpjjcemaaDoorW.PrintWords Go.Proofs.YtblpeegpjjcemaaDoorW.PrintLast Go.Proofs.YtblpeegpjjcemaaDoorW.PrintMore
set_option linter.unusedVariables false
set_option linter.unusedSimpArgs false
theorem p16_eq (x : Int) (h0 : 0 ≤ x) (h1 : x ≤ 65535) : impl_p16.f x = some (strOfNums (be x 2)) := by
  unfold impl_p16.f
  congr 2
  simp [be, List.range_succ]
theorem impl_sumOf_eq (n s m t q : ByteArray) (hn : (names (L n)).isSome = true) (hm : m.size ≤ 1048576) (ht : t.size ≤ 6) (hq : q.size ≤ 32) : impl_sumOf.f n s m q t (⟨#[1, 44]⟩ : ByteArray) = xsum.f s (sumT n m t q) := by
  have hn2 := names_le hn
  have hf := foldB_size n
  have z0 : (⟨#[]⟩ : ByteArray).size = 0 := rfl
  have z2 : (⟨#[1, 44]⟩ : ByteArray).size = 2 := rfl
  have z3 : (⟨#[0, 255]⟩ : ByteArray).size = 2 := rfl
  have z13 : (⟨#[11, 104, 109, 97, 99, 45, 115, 104, 97, 50, 53, 54, 0]⟩ : ByteArray).size = 13 := rfl
  have z4 : (⟨#[0, 0, 0, 0]⟩ : ByteArray).size = 4 := rfl
  have zp := put_size (q.size : Int) 2
  unfold impl_sumOf.f
  rw [impl_fold_eq n (by omega), p16_eq (q.size : Int) (by omega) (by omega)]
  simp only [Option.bind_some, bind_id]
  by_cases h0 : q.toList = []
  · rw [if_pos h0]
    repeat rw [if_pos (by (try simp only [ByteArray.size_append]); omega)]
    congr 1
    apply L_inj
    unfold sumT
    rw [L_B, if_pos h0]
    simp only [L_append]
    simp [L, macB]
  · rw [if_neg h0]
    repeat rw [if_pos (by (try simp only [ByteArray.size_append]); omega)]
    congr 1
    apply L_inj
    unfold sumT
    rw [L_B, if_neg h0]
    simp only [L_append]
    simp [L, macB]

end Go.Proofs.YtblpeegpjjcemaaDoor.Pure
namespace Go.Proofs.YtblpeegpjjcemaaDoor.Pure
open Go.RowKit Go.Proofs.YtblpeegpjjcemaaDoor.F Go.Proofs.YtblpeegpjjcemaaDoor.Base Go.Proofs.YtblpeegpjjcemaaDoorW.PrintWords Go.Proofs.YtblpeegpjjcemaaDoorW.PrintLast Go.Proofs.YtblpeegpjjcemaaDoorW.PrintMore
set_option linter.unusedVariables false
set_option linter.unusedSimpArgs false
-- base: BaseDec
theorem impl_u16_eq {s : ByteArray} {a b : UInt8} {r : List UInt8} (h : L s = a :: b :: r) : impl_u16.f s = some ((a.toNat : Int) * 256 + b.toNat) := by
  have hs : s.size = r.length + 2 := by rw [size_L, h]; rfl
  have ha := byte_le a
  have hb := byte_le b
  unfold impl_u16.f
  rw [if_pos (by omega), if_pos (by omega), bt_cons h, bt_mid (p := [a]) h (by rfl), w64 (x := (a.toNat : Int)) (by omega) (by omega), w64 (x := (a.toNat : Int) * 256) (by omega) (by omega), w64 (x := (b.toNat : Int)) (by omega) (by omega), i64_or8 _ _ (by omega) (by omega) (by omega) (by omega) (by omega)]

end Go.Proofs.YtblpeegpjjcemaaDoor.Pure
namespace Go.Proofs.YtblpeegpjjcemaaDoor.Pure
open Go.RowKit Go.Proofs.YtblpeegpjjcemaaDoor.F Go.Proofs.YtblpeegpjjcemaaDoor.Base Go.Proofs.YtblpeegpjjcemaaDoorW.PrintWords Go.Proofs.YtblpeegpjjcemaaDoorW.PrintLast Go.Proofs.YtblpeegpjjcemaaDoorW.PrintMore
set_option linter.unusedVariables false
set_option linter.unusedSimpArgs false
theorem spec_NameOK_eq (a : ByteArray) (k : Nat) (hk : 400 ≤ k) : spec_NameOK.f k a = some (names (L a)).isSome := by
  unfold spec_NameOK.f
  rw [spec_l01Split_eq a k hk]
  cases names (L a) <;> simp [res]

end Go.Proofs.YtblpeegpjjcemaaDoor.Pure
namespace Go.Proofs.YtblpeegpjjcemaaDoor.Pure
open Go.RowKit Go.Proofs.YtblpeegpjjcemaaDoor.F Go.Proofs.YtblpeegpjjcemaaDoor.Base Go.Proofs.YtblpeegpjjcemaaDoorW.PrintWords Go.Proofs.YtblpeegpjjcemaaDoorW.PrintLast Go.Proofs.YtblpeegpjjcemaaDoorW.PrintMore
set_option linter.unusedVariables false
set_option linter.unusedSimpArgs false
-- base: BaseNum
theorem spec_l02Num_l0 (s : ByteArray) (hs : s.size ≤ 7) : ∀ (l p : List UInt8) (n : Int) (k : Nat), L s = p ++ l → 0 ≤ n → n < 256 ^ p.length → l.length < k → spec_l02Num.l0 k s n (p.length : Int) = some (num n l) := by
  intro l
  induction l with
  | nil =>
    intro p n k h h0 h1 hk
    obtain ⟨k, rfl⟩ : ∃ m, k = m + 1 := ⟨k - 1, by simp at hk; omega⟩
    have hz : s.size = p.length := by rw [size_L, h]; simp
    rw [spec_l02Num.l0, if_neg (by omega)]
    rfl
  | cons c r ih =>
    intro p n k h h0 h1 hk
    obtain ⟨k, rfl⟩ : ∃ m, k = m + 1 := ⟨k - 1, by simp at hk; omega⟩
    have hz : s.size = p.length + (r.length + 1) := by rw [size_L, h]; simp
    have hc := byte_le c
    have hp : (256 : Int) ^ p.length ≤ 281474976710656 := by
      rcases (by omega : p.length = 0 ∨ p.length = 1 ∨ p.length = 2 ∨ p.length = 3 ∨ p.length = 4 ∨ p.length = 5 ∨ p.length = 6) with e | e | e | e | e | e | e <;> rw [e] <;> decide
    rw [spec_l02Num.l0, if_pos (by omega), if_pos (by omega), bt_mid h rfl, w64 (x := n * 256) (by omega) (by omega), w64 (x := (c.toNat : Int)) (by omega) (by omega), w64 (x := n * 256 + (c.toNat : Int)) (by omega) (by omega), w64 (x := (p.length : Int) + 1) (by omega) (by omega)]
    have e : (p.length : Int) + 1 = ((p ++ [c]).length : Int) := by simp
    rw [e]
    exact ih (p ++ [c]) _ k (by rw [h]; simp) (by omega) (by rw [List.length_append, Int.pow_add]; simp only [List.length_cons, List.length_nil]; omega) (by simp at hk; omega)
theorem spec_l02Num_eq (s : ByteArray) (hs : s.size ≤ 7) (k : Nat) (hk : s.size < k) : spec_l02Num.f k s = some (num 0 (L s)) := by
  unfold spec_l02Num.f
  have := spec_l02Num_l0 s hs (L s) [] 0 k rfl (by decide) (by decide) (by rw [← size_L]; exact hk)
  simpa using this
theorem spec_l02Num_two {s : ByteArray} {a b : UInt8} (h : L s = [a, b]) (k : Nat) (hk : 3 ≤ k) : spec_l02Num.f k s = some ((a.toNat : Int) * 256 + b.toNat) := by
  have hs : s.size = 2 := by rw [size_L, h]; rfl
  rw [spec_l02Num_eq s (by omega) k (by omega), h]
  simp [num]

end Go.Proofs.YtblpeegpjjcemaaDoor.Pure
namespace Go.Proofs.YtblpeegpjjcemaaDoor.Pure
open Go.RowKit Go.Proofs.YtblpeegpjjcemaaDoor.F Go.Proofs.YtblpeegpjjcemaaDoor.Base Go.Proofs.YtblpeegpjjcemaaDoorW.PrintWords Go.Proofs.YtblpeegpjjcemaaDoorW.PrintLast Go.Proofs.YtblpeegpjjcemaaDoorW.PrintMore
set_option linter.unusedVariables false
set_option linter.unusedSimpArgs false
-- base: BaseName BaseNum BaseDec
theorem p48_eq (t : Int) (h0 : 0 ≤ t) (h1 : t ≤ 281474976710655) : impl_p48.f t = some (strOfNums (be t 6)) := by
  have hb : Go.bits .and .i64 t 4294967295 = t % 4294967296 := by
    have e : (2 : Int) ^ 32 = 4294967296 := by decide
    have e2 : (2 : Int) ^ 63 = 9223372036854775808 := by decide
    have := bits_mask .i64 63 (by decide) wraps_i64 32 (by decide) t h0 (by rw [e2]; omega)
    rw [e] at this
    exact this
  have z2 := put_size (t / 4294967296) 2
  have z4 := put_size (t % 4294967296) 4
  unfold impl_p48.f
  rw [hb, p16_eq _ (by omega) (by omega), impl_p32_eq _ (by omega) (by omega)]
  simp only [Option.bind_some]
  rw [if_pos (by omega)]
  congr 1
  apply L_inj
  rw [L_append, L_strOfNums, L_strOfNums, L_strOfNums, ← List.map_append]
  congr 1
  simp [be, List.range_succ]
  omega
theorem sumT_size (n m t q : ByteArray) (hn : n.size ≤ 255) (hm : m.size ≤ 1048576) (ht : t.size ≤ 6) (hq : q.size ≤ 32) : (sumT n m t q).size ≤ 1572864 := by
  have hf := foldB_size n
  have zp := put_size (q.size : Int) 2
  have z13 : macB.size = 13 := rfl
  rw [size_L] at hf hm ht hq zp z13
  rw [size_L, sumT, L_B]
  rw [size_L] at hf
  have hn' := hn
  rw [size_L] at hn'
  split
  · simp only [List.length_append, List.length_nil, List.length_cons]; omega
  · simp only [List.length_append, List.length_nil, List.length_cons]; omega
def signD (m t sm : ByteArray) : ByteArray := B (L macB ++ L t ++ [1, 44, 0, 32] ++ L sm ++ (L m).take 2 ++ [0, 0, 0, 0])
def signO (n m : ByteArray) (c : Int) (d : ByteArray) : ByteArray := B ((L m).take 10 ++ L (strOfNums (be (c + 1) 2)) ++ (L m).drop 12 ++ L n ++ L (strOfNums (be 250 2)) ++ L (strOfNums (be 255 2)) ++ L (strOfNums (be 0 4)) ++ L (strOfNums (be (d.size : Int) 2)) ++ L d)
def signR (o : ByteArray) : List Int × Int := if (o.size : Int) > 65535 then ([], 11) else (bytesOf o, 0)
theorem xbytes_eq (o : ByteArray) (h : (o.size : Int) ≤ 65535) : xbytes.f o = some (bytesOf o) := by
  unfold xbytes.f
  rw [if_pos (by omega)]
theorem sign_last (o X : ByteArray) (h : X = o) : (if (X.size : Int) > 65535 then some (([] : List Int), (11 : Int)) else (xbytes.f X).bind fun t => some (t, 0)) = some (signR o) := by
  subst h
  unfold signR
  by_cases h : (X.size : Int) > 65535
  · rw [if_pos h, if_pos h]
  · rw [if_neg h, if_neg h, xbytes_eq X (by omega)]; rfl
theorem signR_len (o : ByteArray) : (signR o).1.length ≤ 65535 := by
  unfold signR
  split
  · simp
  · rw [bytesOf_length]; omega
theorem j0_both (l : List Int) (n s q : ByteArray) (t : Int) (hl : l.length ≤ 1048576) (h12 : 12 ≤ l.length) (hn : (names (L n)).isSome = true) (hs : s.size ≤ 64) (h0 : 0 ≤ t) (h1 : t ≤ 281474976710655) (hq : q.size ≤ 32) (k : Nat) (hk : 1100000 ≤ k) :
    ∃ r, spec_Sign.j0 (k + 1) l t q false n s = some r ∧ impl_Sign.j0 (k + 1) l t q false n s = some r ∧ r.1.length ≤ 65535 := by
  have hn2 := names_le hn
  obtain ⟨m, hm⟩ : ∃ m, m = strOfNums l := ⟨_, rfl⟩
  have hmz : m.size = l.length := by rw [hm, strOfNums_size]
  have hp6 : ∀ x, spec_l02Put.f k x 6 = some (strOfNums (be x 6)) := fun x => spec_l02Put_eq x 6 (by omega) k (by omega)
  have hp2 : ∀ x, spec_l02Put.f k x 2 = some (strOfNums (be x 2)) := fun x => spec_l02Put_eq x 2 (by omega) k (by omega)
  have hp4 : ∀ x, spec_l02Put.f k x 4 = some (strOfNums (be x 4)) := fun x => spec_l02Put_eq x 4 (by omega) k (by omega)
  obtain ⟨a, b, r, hr⟩ : ∃ a b r, (L m).drop 10 = a :: b :: r := by
    have hlen : 2 ≤ ((L m).drop 10).length := by rw [List.length_drop, ← size_L]; omega
    match h : (L m).drop 10, hlen with
    | a :: b :: r, _ => exact ⟨a, b, r, rfl⟩
  have ea : L (m.extract 10 12) = [a, b] := by rw [L_extract, hr]; rfl
  have eb : L (m.extract 10 m.size) = a :: b :: r := by
    rw [L_extract, List.take_of_length_le (by rw [List.length_drop, ← size_L]; omega), hr]
  obtain ⟨c, hc⟩ : ∃ c, c = (a.toNat : Int) * 256 + b.toNat := ⟨_, rfl⟩
  have hab := byte_le a
  have hbb := byte_le b
  have sn : spec_l02Num.f k (m.extract 10 12) = some c := by rw [spec_l02Num_two ea k (by omega), hc]
  have iu : impl_u16.f (m.extract 10 m.size) = some c := by rw [impl_u16_eq eb, hc]
  obtain ⟨tm, htm⟩ : ∃ x, x = strOfNums (be t 6) := ⟨_, rfl⟩
  have htz : tm.size = 6 := by rw [htm, put_size]
  have hx : xsum.f s (sumT n m tm q) = some (strOfNums (hmac (bytesOf s) (bytesOf (sumT n m tm q)))) := by
    unfold xsum.f
    rw [if_pos ⟨by omega, sumT_size n m tm q hn2 (by omega) (by omega) hq⟩]
  obtain ⟨sm, hsm⟩ : ∃ x, x = strOfNums (hmac (bytesOf s) (bytesOf (sumT n m tm q))) := ⟨_, rfl⟩
  have hsz : sm.size = 32 := by rw [hsm, strOfNums_size, hmac_len]
  have hso := spec_l09Sum_eq n s m tm q hn (by omega) (by omega) hq k hk
  have hio := impl_sumOf_eq n s m tm q hn (by omega) (by omega) hq
  rw [hx, ← hsm] at hso hio
  have z4 : (⟨#[0, 0, 0, 0]⟩ : ByteArray).size = 4 := rfl
  have z4' : (⟨#[1, 44, 0, 32]⟩ : ByteArray).size = 4 := rfl
  have z2 : (⟨#[1, 44]⟩ : ByteArray).size = 2 := rfl
  have z2' : (⟨#[0, 32]⟩ : ByteArray).size = 2 := rfl
  have z13 : macB.size = 13 := rfl
  have z13' : (⟨#[11, 104, 109, 97, 99, 45, 115, 104, 97, 50, 53, 54, 0]⟩ : ByteArray).size = 13 := rfl
  have y1 := put_size (c + 1) 2
  have y2 := put_size 250 2
  have y3 := put_size 255 2
  have y4 := put_size 0 4
  have y5 : ∀ x : ByteArray, (strOfNums (be (x.size : Int) 2)).size = 2 := fun x => put_size _ 2
  have y6 := y5 (signD m tm sm)
  have hp32 : impl_p32.f 0 = some (strOfNums (be 0 4)) := impl_p32_eq 0 (by omega) (by omega)
  have hp48 := p48_eq t h0 h1
  rw [← htm] at hp48
  have hp16 : ∀ x : Int, impl_p16.f x = some (strOfNums (be x 2)) := fun x => by
    unfold impl_p16.f
    congr 2
    simp [be, List.range_succ]
  by_cases hc0 : c = 65535
  · refine ⟨([], 12), ?_, ?_, by simp⟩
    · rw [spec_Sign.j0, if_neg (by decide), ← hm, if_pos (by omega), if_pos (by omega), sn, Option.bind_some, if_pos hc0]
    · rw [impl_Sign.j0, if_neg (by decide), ← hm, if_pos (by omega), iu, Option.bind_some, if_pos hc0]
  · have hw : wrap64 (c + 1) = c + 1 := w64 (by omega) (by omega)
    refine ⟨signR (signO n m c (signD m tm sm)), ?_, ?_, signR_len _⟩
    · rw [spec_Sign.j0, if_neg (by decide), ← hm, if_pos (by omega), if_pos (by omega), sn, Option.bind_some, if_neg hc0, hp6, ← htm, Option.bind_some, hso, Option.bind_some, alg_eq, Option.bind_some, hw]
      have hD : ((((macB ++ tm) ++ (⟨#[1, 44, 0, 32]⟩ : ByteArray)) ++ sm) ++ (m.extract 0 2)) ++ (⟨#[0, 0, 0, 0]⟩ : ByteArray) = signD m tm sm := L_inj (by
        unfold signD
        rw [L_B]
        simp only [L_append, L_extract]
        simp [L])
      have hDz : (signD m tm sm).size ≤ 100 := by rw [← hD]; simp only [ByteArray.size_append, ByteArray.size_extract]; omega
      rw [hD]
      repeat (first | rw [if_pos (by first | omega | (simp only [ByteArray.size_append, ByteArray.size_extract]; omega))] | rw [hp2, Option.bind_some] | rw [hp4, Option.bind_some])
      exact sign_last _ _ (L_inj (by
        unfold signO
        rw [L_B]
        simp only [L_append, L_extract]
        simp [size_L]
        exact List.take_of_length_le (by rw [List.length_drop]; exact Nat.le_refl _)))
    · rw [impl_Sign.j0, if_neg (by decide), ← hm, if_pos (by omega), iu, Option.bind_some, if_neg hc0, hp48, Option.bind_some, hw]
      have hD : ((((((⟨#[11, 104, 109, 97, 99, 45, 115, 104, 97, 50, 53, 54, 0]⟩ : ByteArray) ++ tm) ++ (⟨#[1, 44]⟩ : ByteArray)) ++ (⟨#[0, 32]⟩ : ByteArray)) ++ sm) ++ (m.extract 0 2)) ++ (⟨#[0, 0, 0, 0]⟩ : ByteArray) = signD m tm sm := L_inj (by
        unfold signD
        rw [L_B]
        simp only [L_append, L_extract]
        simp [L, macB])
      have hDz : (signD m tm sm).size ≤ 100 := by rw [← hD]; simp only [ByteArray.size_append, ByteArray.size_extract]; omega
      simp only [Option.bind_some, hio]
      rw [hD]
      repeat (first | rw [if_pos (by first | omega | (simp only [ByteArray.size_append, ByteArray.size_extract]; omega))] | rw [hp16, Option.bind_some] | rw [hp32, Option.bind_some])
      exact sign_last _ _ (L_inj (by
        unfold signO
        rw [L_B]
        simp only [L_append, L_extract]
        simp [size_L]
        exact List.take_of_length_le (by rw [List.length_drop]; exact Nat.le_refl _)))
theorem Sign_both (l : List Int) (n s q : ByteArray) (t : Int) (hl : l.length ≤ 1048576) (k : Nat) (hk : 1100000 ≤ k) :
    ∃ r, spec_Sign.f (k + 1) l n s t q = some r ∧ impl_Sign.f (k + 1) l n s t q = some r ∧ r.1.length ≤ 65535 := by
  have bad : ∃ r, spec_Sign.j0 (k + 1) l t q true n s = some r ∧ impl_Sign.j0 (k + 1) l t q true n s = some r ∧ r.1.length ≤ 65535 := ⟨([], 32), by rw [spec_Sign.j0, if_pos rfl], by rw [impl_Sign.j0, if_pos rfl], by simp⟩
  unfold spec_Sign.f impl_Sign.f
  by_cases h12 : (l.length : Int) < 12
  · rw [if_pos h12, if_pos h12]; exact bad
  · rw [if_neg h12, if_neg h12]
    unfold spec_l09KeyOK.f impl_keyOk.f
    rw [spec_NameOK_eq n _ (by omega), impl_NameOK_eq n _ (by omega)]
    simp only [Option.bind_some]
    by_cases hn : (names (L n)).isSome = true
    · rw [if_pos hn]
      by_cases hs1 : (s.size : Int) ≥ 1
      · rw [if_pos hs1]
        simp only [Option.bind_some]
        by_cases hs2 : (s.size : Int) ≤ 64
        · rw [if_pos (decide_eq_true hs2), if_pos (decide_eq_true hs2)]
          unfold spec_l04In.f impl_within.f
          by_cases t0 : t ≥ 0
          · rw [if_pos t0]
            simp only [Option.bind_some]
            by_cases t1 : t ≤ 281474976710655
            · rw [if_pos (decide_eq_true t1), if_pos (decide_eq_true t1)]
              by_cases hq : (q.size : Int) > 32
              · rw [decide_eq_true hq]; exact bad
              · rw [decide_eq_false hq]
                exact j0_both l n s q t hl (by omega) hn (by omega) t0 t1 (by omega) k hk
            · rw [if_neg (by rw [decide_eq_false t1]; decide), if_neg (by rw [decide_eq_false t1]; decide)]; exact bad
          · rw [if_neg t0]
            simp only [Option.bind_some]
            rw [if_neg (by decide), if_neg (by decide)]; exact bad
        · rw [if_neg (by rw [decide_eq_false hs2]; decide), if_neg (by rw [decide_eq_false hs2]; decide)]; exact bad
      · rw [if_neg hs1]
        simp only [Option.bind_some]
        rw [if_neg (by decide), if_neg (by decide)]; exact bad
    · rw [if_neg hn]
      simp only [Option.bind_some]
      rw [if_neg (by decide), if_neg (by decide)]; exact bad

end Go.Proofs.YtblpeegpjjcemaaDoor.Pure
namespace Go.Proofs.YtblpeegpjjcemaaDoor.Pure
open Go.RowKit Go.Proofs.YtblpeegpjjcemaaDoor.F Go.Proofs.YtblpeegpjjcemaaDoor.Base Go.Proofs.YtblpeegpjjcemaaDoorW.PrintWords Go.Proofs.YtblpeegpjjcemaaDoorW.PrintLast Go.Proofs.YtblpeegpjjcemaaDoorW.PrintMore
set_option linter.unusedVariables false
set_option linter.unusedSimpArgs false
theorem laws_eqByteS_l0 (l : List Int) (hl : l.length ≤ 4611686018427387904) : ∀ (d k : Nat) (i : Int), 0 ≤ i → i + d = l.length → d < k → laws_eqByteS.l0 k l l i = some true := by
  intro d
  induction d with
  | zero =>
    intro k i h0 h1 hk
    obtain ⟨k, rfl⟩ : ∃ m, k = m + 1 := ⟨k - 1, by omega⟩
    simp only [laws_eqByteS.l0]
    rw [if_neg (by omega)]
  | succ d ih =>
    intro k i h0 h1 hk
    obtain ⟨k, rfl⟩ : ∃ m, k = m + 1 := ⟨k - 1, by omega⟩
    simp only [laws_eqByteS.l0]
    rw [if_pos (by omega), if_pos h0, if_pos (by omega), if_pos trivial, w64 (by omega) (by omega)]
    exact ih k (i + 1) (by omega) (by omega) (by omega)
theorem laws_eqByteS_refl (l : List Int) (hl : l.length ≤ 4611686018427387904) (k : Nat) (hk : l.length < k) : laws_eqByteS.f k l l = some true := by
  unfold laws_eqByteS.f
  rw [if_pos rfl]
  exact laws_eqByteS_l0 l hl l.length k 0 (by omega) (by omega) hk

end Go.Proofs.YtblpeegpjjcemaaDoor.Pure
namespace Go.Proofs.YtblpeegpjjcemaaDoor.Pure
open Go.RowKit Go.Proofs.YtblpeegpjjcemaaDoor.F Go.Proofs.YtblpeegpjjcemaaDoor.Base Go.Proofs.YtblpeegpjjcemaaDoorW.PrintWords Go.Proofs.YtblpeegpjjcemaaDoorW.PrintLast Go.Proofs.YtblpeegpjjcemaaDoorW.PrintMore
set_option linter.unusedVariables false
set_option linter.unusedSimpArgs false
def bmarks (n : Nat) (m : Int) : List Int := (List.range n).map fun (j : Nat) => (m + (j : Int)) % 256
theorem bmarks_length (n : Nat) (m : Int) : (bmarks n m).length = n := by simp [bmarks]
theorem bmarks_succ (n : Nat) (m : Int) : bmarks (n + 1) m = bmarks n m ++ [(m + (n : Int)) % 256] := by simp [bmarks, List.range_succ]
theorem laws_markByteS_l0 (m : Int) (hm0 : 0 ≤ m) : ∀ (d k i : Nat) (r : List Int), r.length = d → d < k → m + i + d ≤ 1000000000000000 → laws_markByteS.l0 k (bmarks i m ++ r) (m + i) i = some (m + i + d, bmarks (i + d) m) := by
  intro d
  induction d with
  | zero =>
    intro k i r hr hk hb
    obtain ⟨k, rfl⟩ : ∃ m, k = m + 1 := ⟨k - 1, by omega⟩
    obtain rfl : r = [] := List.length_eq_zero_iff.1 hr
    simp only [laws_markByteS.l0, List.append_nil]
    rw [if_neg (by rw [bmarks_length]; omega)]
    simp
  | succ d ih =>
    intro k i r hr hk hb
    obtain ⟨k, rfl⟩ : ∃ m, k = m + 1 := ⟨k - 1, by omega⟩
    obtain ⟨c, r, rfl⟩ : ∃ c t, r = c :: t := by cases r with | nil => simp at hr | cons c t => exact ⟨c, t, rfl⟩
    simp only [List.length_cons] at hr
    simp only [laws_markByteS.l0]
    rw [if_pos (by simp [bmarks_length]; omega), if_pos (by omega), w64 (by omega) (by omega), w64 (by omega) (by omega)]
    have e : (bmarks i m ++ c :: r).set (i : Int).toNat ((m + i) % 256) = bmarks (i + 1) m ++ r := by
      rw [bmarks_succ, Int.toNat_natCast, List.set_append_right _ _ (by rw [bmarks_length]; exact Nat.le_refl _), bmarks_length]
      simp
    rw [e]
    have := ih k (i + 1) r (by omega) (by omega) (by omega)
    rw [show m + ((i + 1 : Nat) : Int) = m + (i : Int) + 1 from by omega, show ((i + 1 : Nat) : Int) = (i : Int) + 1 from by omega] at this
    rw [this]
    simp only [Option.some.injEq, Prod.mk.injEq]
    exact ⟨by omega, by rw [show i + 1 + d = i + (d + 1) from by omega]⟩
theorem laws_markByteS_eq (l : List Int) (m : Int) (hm0 : 0 ≤ m) (k : Nat) (hk : l.length < k) (hb : m + l.length ≤ 1000000000000000) : laws_markByteS.f k l m = some (m + l.length, bmarks l.length m) := by
  have := laws_markByteS_l0 m hm0 l.length k 0 l rfl hk (by omega)
  unfold laws_markByteS.f
  simpa [bmarks] using this

end Go.Proofs.YtblpeegpjjcemaaDoor.Pure
namespace Go.Proofs.YtblpeegpjjcemaaDoor.Pure
open Go.RowKit Go.Proofs.YtblpeegpjjcemaaDoor.F Go.Proofs.YtblpeegpjjcemaaDoor.Base Go.Proofs.YtblpeegpjjcemaaDoorW.PrintWords Go.Proofs.YtblpeegpjjcemaaDoorW.PrintLast Go.Proofs.YtblpeegpjjcemaaDoorW.PrintMore
set_option linter.unusedVariables false
set_option linter.unusedSimpArgs false
theorem rd_bmarks (n : Nat) (m : Int) (i : Nat) (h : i < n) : rd (bmarks n m) (i : Int) = (m + (i : Int)) % 256 := by
  simp [rd, bmarks, List.getD_eq_getElem?_getD, h]
theorem laws_heldByteS_l0 (n : Nat) (m : Int) (hm0 : 0 ≤ m) (hb : m + n ≤ 1000000000000000) : ∀ (d k i : Nat), i + d = n → d < k → laws_heldByteS.l0 k (bmarks n m) (m + i) i = some (m + n) := by
  intro d
  induction d with
  | zero =>
    intro k i hr hk
    obtain ⟨k, rfl⟩ : ∃ m, k = m + 1 := ⟨k - 1, by omega⟩
    simp only [laws_heldByteS.l0]
    rw [if_neg (by rw [bmarks_length]; omega)]
    simp only [Option.some.injEq]
    omega
  | succ d ih =>
    intro k i hr hk
    obtain ⟨k, rfl⟩ : ∃ m, k = m + 1 := ⟨k - 1, by omega⟩
    simp only [laws_heldByteS.l0]
    rw [if_pos (by rw [bmarks_length]; omega), if_pos (by omega), rd_bmarks n m i (by omega), if_pos rfl, w64 (x := m + (i : Int) + 1) (by omega) (by omega), w64 (x := (i : Int) + 1) (by omega) (by omega)]
    have := ih k (i + 1) (by omega) (by omega)
    rw [show m + ((i + 1 : Nat) : Int) = m + (i : Int) + 1 from by omega, show ((i + 1 : Nat) : Int) = (i : Int) + 1 from by omega] at this
    exact this
theorem laws_heldByteS_eq (n : Nat) (m : Int) (hm0 : 0 ≤ m) (k : Nat) (hk : n < k) (hb : m + n ≤ 1000000000000000) : laws_heldByteS.f k (bmarks n m) m = some (m + n) := by
  have := laws_heldByteS_l0 n m hm0 hb n k 0 (by omega) hk
  unfold laws_heldByteS.f
  simpa using this

end Go.Proofs.YtblpeegpjjcemaaDoor.Pure
namespace Go.Proofs.YtblpeegpjjcemaaDoor.Pure
open Go.RowKit Go.Proofs.YtblpeegpjjcemaaDoor.F Go.Proofs.YtblpeegpjjcemaaDoor.Base Go.Proofs.YtblpeegpjjcemaaDoorW.PrintWords Go.Proofs.YtblpeegpjjcemaaDoorW.PrintLast Go.Proofs.YtblpeegpjjcemaaDoorW.PrintMore
set_option linter.unusedVariables false
set_option linter.unusedSimpArgs false
theorem laws_toByteS_l0 (l : List Int) (hl : l.length ≤ 1000000000) : ∀ (d k i : Nat), i + d = l.length → d < k → laws_toByteS.l0 k l (l.take i ++ List.replicate d 0) (i : Int) = some l := by
  intro d
  induction d with
  | zero =>
    intro k i hi hk
    obtain ⟨k, rfl⟩ : ∃ m, k = m + 1 := ⟨k - 1, by omega⟩
    rw [laws_toByteS.l0, if_neg (by omega)]
    simp only [List.replicate_zero, List.append_nil]
    rw [List.take_of_length_le (by omega)]
  | succ d ih =>
    intro k i hi hk
    obtain ⟨k, rfl⟩ : ∃ m, k = m + 1 := ⟨k - 1, by omega⟩
    have hi' : i < l.length := by omega
    have hel : rd l (i : Int) = l[i] := by simp [rd, List.getD_eq_getElem?_getD, hi']
    rw [laws_toByteS.l0, if_pos (by omega), if_pos (by omega), if_pos (by simp; omega), w64 (by omega) (by omega), hel]
    have e : (l.take i ++ List.replicate (d + 1) (0 : Int)).set (i : Int).toNat l[i] = l.take (i + 1) ++ List.replicate d 0 := by
      rw [Int.toNat_natCast, List.set_append_right _ _ (by simp; omega), List.length_take, Nat.min_eq_left (by omega), Nat.sub_self, List.replicate_succ, List.set_cons_zero, List.take_succ_eq_append_getElem hi', List.append_assoc]
      rfl
    rw [e]
    exact ih k (i + 1) (by omega) (by omega)
theorem laws_toByteS_eq (l : List Int) (hl : l.length ≤ 1000000000) (k : Nat) (hk : l.length < k) : laws_toByteS.f k l = some l := by
  unfold laws_toByteS.f
  rw [if_pos (by omega), if_pos (by omega), Int.toNat_natCast]
  have := laws_toByteS_l0 l hl l.length k 0 (by omega) hk
  simpa using this

end Go.Proofs.YtblpeegpjjcemaaDoor.Pure
namespace Go.Proofs.YtblpeegpjjcemaaDoor.Pure
open Go.RowKit Go.Proofs.YtblpeegpjjcemaaDoor.F Go.Proofs.YtblpeegpjjcemaaDoor.Base Go.Proofs.YtblpeegpjjcemaaDoorW.PrintWords Go.Proofs.YtblpeegpjjcemaaDoorW.PrintLast Go.Proofs.YtblpeegpjjcemaaDoorW.PrintMore
set_option linter.unusedVariables false
set_option linter.unusedSimpArgs false
theorem FnExactSign (l : List Int) (n s : ByteArray) (t : Int) (q : ByteArray) : laws_FnExactSign.f 1100012 l n s t q = some true := by
  unfold laws_FnExactSign.f
  by_cases hl : (l.length : Int) > 1048576
  · rw [if_pos hl]
  · rw [if_neg hl]
    by_cases hq : (q.size : Int) > 1048576
    · rw [if_pos hq]
    · rw [if_neg hq]
      obtain ⟨z, hz⟩ : ∃ z, laws_szKey.f n s 1048576 = some z := by
        unfold laws_szKey.f
        repeat' split
        all_goals exact ⟨_, rfl⟩
      rw [hz, Option.bind_some]
      by_cases hz0 : z < 0
      · rw [if_pos hz0]
      · rw [if_neg hz0]
        obtain ⟨r, h1, h2, hr⟩ := Sign_both l n s q t (by omega) 1100009 (by omega)
        have h3 : spec_Sign.f 1100012 l n s t q = some r := at_rounds (fun k => spec_Sign.mono l n s t q k) (by omega) h1
        have h4 : impl_Sign.f 1100012 l n s t q = some r := at_rounds (fun k => impl_Sign.mono l n s t q k) (by omega) h2
        have hto : ∀ K, 1100000 ≤ K → laws_toByteS.f K l = some l := fun K hK => laws_toByteS_eq l (by omega) K (by omega)
        have heq : ∀ K, 1100000 ≤ K → laws_eqByteS.f K l l = some true := fun K hK => laws_eqByteS_refl l (by omega) K (by omega)
        have her : ∀ K, 1100000 ≤ K → laws_eqByteS.f K r.1 r.1 = some true := fun K hK => laws_eqByteS_refl r.1 (by omega) K (by omega)
        have hk : laws_toKey.f n s = some (n, s) := rfl
        have hne : (r.2 != r.2) = false := by simp
        rw [hto _ (by omega), Option.bind_some, hk, Option.bind_some, h3, Option.bind_some, Option.bind_some, Option.bind_some, h4, Option.bind_some, her _ (by omega), Option.bind_some, if_pos rfl, hne]
        rw [laws_FnExactSign.j0, if_neg (by decide), hto _ (by omega), Option.bind_some, heq _ (by omega), Option.bind_some, if_pos rfl, laws_markByteS_eq l 1 (by omega) _ (by omega) (by omega), Option.bind_some, if_neg (by simp only; omega), her _ (by omega), Option.bind_some, if_pos rfl, hne]
        rw [laws_FnExactSign.j1, if_neg (by decide), laws_markByteS_eq r.1 1 (by omega) _ (by omega) (by omega), Option.bind_some, laws_heldByteS_eq _ 1 (by omega) _ (by omega) (by omega), Option.bind_some, if_neg (by omega), if_pos rfl, hto _ (by omega), Option.bind_some, hk, Option.bind_some, h2, Option.bind_some, her _ (by omega), Option.bind_some, if_pos rfl, hne]
        rw [laws_FnExactSign.j2, if_neg (by decide), laws_heldByteS_eq _ 1 (by omega) _ (by omega) (by omega), Option.bind_some, if_neg (by omega), if_pos rfl]

end Go.Proofs.YtblpeegpjjcemaaDoor.Pure
namespace Go.Proofs.YtblpeegpjjcemaaDoor.fnExactSign
open Go.ChangeShapes Go.WideShapes Go.ChangeAt Go.RowKit Go.Proofs.YtblpeegpjjcemaaDoorW.PrintWords Go.Proofs.YtblpeegpjjcemaaDoor.F
open Go.ChangeMaps (open_string shut_string)
set_option linter.unusedVariables false
theorem laidOut : laidOutB Tryd.prog = true := by kernel_rfl
theorem own : ownKnob Tryd.prog.godebug = none := by kernel_rfl
theorem bytes_of_trod {H : Type} {enc : TypeId × Value → H} {W : World} {sp : Nat → Bool} {hd : Bool} {fuel : Nat} {cs : List Value} {x : DataW H × List MemPlace}
    (h : DataW.trod enc Tryd.prog W 0 sp hd fuel 22 cs = some x) :
    ∃ (A : Option Addr) (cap : Nat) (l : List Int), cs = [.slice A l.length cap] ∧ l.length ≤ cap ∧ l.length ≤ maxLen ∧ Kd.C (Kd.int .u8) W A l.length l ∧ ∀ n ∈ l, (Lit.int .u8 n).wf = true := by
  rcases open_ints Tryd.underlying22 Tryd.underlying5 (by kernel_rfl) h with ⟨hcs, _⟩ | ⟨x, len, c, zs, hcs, _, hl, hm, hz, _, hc, hs⟩
  · exact ⟨none, 0, [], hcs, Nat.le_refl _, Nat.zero_le _, Kd.C_of_reads (d := (0 : Int)) (enc := Value.int .u8) (h1 := fun _ => rfl) ⟨rfl, by simp, (fun h => absurd h (by simp))⟩, fun s hs => by cases hs⟩
  · have hzl : len ≤ zs.length := by rw [hz]; split <;> omega
    have hlen : (zs.take len).length = len := by rw [List.length_take]; omega
    refine ⟨some x, c, zs.take len, by rw [hlen]; exact hcs, by omega, by omega, Kd.C_of_reads (d := (0 : Int)) (enc := Value.int .u8) (h1 := fun _ => rfl) ⟨rfl, by unfold maxLen at hm; omega, fun _ => ⟨x, rfl, fun j hj => ?_⟩⟩, fun s h => hs s (List.mem_of_mem_take h)⟩
    rw [hc j (by omega)]
    have hj2 : j < len := by omega
    simp [List.getD_eq_getElem?_getD, hj2]

theorem key_of_trod {H : Type} {enc : TypeId × Value → H} {W : World} {sp : Nat → Bool} {hd : Bool} {fuel : Nat} {cs : List Value} {x : DataW H × List MemPlace}
    (h : DataW.trod enc Tryd.prog W 0 sp hd fuel 31 cs = some x) : ∃ a b : ByteArray, cs = [.string a, .string b] := by
  obtain ⟨y0, y1, n, _, hlen, t0, t1⟩ := trod_struct2 Tryd.underlying31 h
  have c24 : Tryd.prog.cellsOf 31 = 2 := by kernel_rfl
  have c9 : Tryd.prog.cellsOf 9 = 1 := by kernel_rfl
  rw [c24] at hlen
  match cs, hlen with
  | [v0, v1], _ =>
    simp [c9] at t0 t1
    obtain ⟨s0, e0, _, b0⟩ := DataW.trod_string Tryd.underlying9 t0
    obtain ⟨s1, e1, _, b1⟩ := DataW.trod_string Tryd.underlying9 t1
    simp at e0 e1
    subst e0 e1
    exact ⟨s0, s1, rfl⟩
noncomputable abbrev w0 (os : Os) : World := (World.doorLaid Tryd.prog 84 os).forCall (fun _ _ => 0) ⟨#[], #[.slice none 0 0, .agg #[.string ByteArray.empty, .string ByteArray.empty], .int .i64 0, .string ByteArray.empty], []⟩
set_option maxRecDepth 100000 in
theorem okB (os : Os) : Input.okWideB Tryd.prog (w0 os) 5 ⟨#[], #[.slice none 0 0, .agg #[.string ByteArray.empty, .string ByteArray.empty], .int .i64 0, .string ByteArray.empty], []⟩ = true := by kernel_rfl
set_option maxRecDepth 100000 in
theorem szB (os : Os) (H : Type) (enc : TypeId × Value → H) : Rows.fnExactSignSpec.sizedB enc Tryd.prog Tryd.f5 false (w0 os).memory #[.slice none 0 0, .agg #[.string ByteArray.empty, .string ByteArray.empty], .int .i64 0, .string ByteArray.empty] 8 = true := by kernel_rfl
set_option maxRecDepth 100000 in
theorem preB (os : Os) (H : Type) (enc : TypeId × Value → H) : Rows.fnExactSignSpec.preB enc Tryd.prog Tryd.f5 [] false (w0 os).memory #[.slice none 0 0, .agg #[.string ByteArray.empty, .string ByteArray.empty], .int .i64 0, .string ByteArray.empty] 8 = true := by kernel_rfl
set_option maxRecDepth 100000 in
theorem shp (os : Os) : (w0 os).Shaped Tryd.prog := World.shaped_of_RefB (by kernel_rfl) (by kernel_rfl)
set_option maxRecDepth 100000 in
theorem wit (os : Os) (H : Type) (enc : TypeId × Value → H) : ∃ (w : World) (tape : Tape) (i : Input), w.os = os ∧ (w.forCall tape i).Shaped Tryd.prog ∧ i.vars = [] ∧ Input.okWide Tryd.prog (w.forCall tape i) .any w.heap.size 5 i ∧
      ((Rows.fnExactSignSpec.pre enc Tryd.prog Tryd.f5 [] false (w.forCall tape i).memory i.args ∧ laidMetH Tryd.prog (XGlob.laidF (H := Unit)) (w.forCall tape i).memory) ∧ sizedMet enc Tryd.prog Tryd.f5 (OpenSpec.ofChange Rows.fnExactSignSpec) false (w.forCall tape i).memory i.args) ∧ ({} : Assume).holds Tryd.prog (lone (Frame.enter Tryd.prog 5 i.args .normal) [] (w.forCall tape i)) :=
  ChangeSpec.witness_shaped (C := Tryd.checked) (os := os) (X := fun w _ => laidMetH Tryd.prog (XGlob.laidF (H := Unit)) w) false (World.doorLaid Tryd.prog 84 os) #[.slice none 0 0, .agg #[.string ByteArray.empty, .string ByteArray.empty], .int .i64 0, .string ByteArray.empty] 8 rfl (shp os) (okB os) (preB os H enc) (szB os H enc) (XGlob.door_met os _)
set_option maxHeartbeats 4000000 in
set_option maxRecDepth 100000 in
theorem lifted (os : Os) (started : os.Started) (H : Type) (enc : TypeId × Value → H) :
    ReturnsInHanded {} Tryd.checked os 5 .any (fun w args => (Rows.fnExactSignSpec.pre enc Tryd.prog Tryd.f5 [] false w args ∧ laidMetH Tryd.prog (XGlob.laidF (H := Unit)) w) ∧ sizedMet enc Tryd.prog Tryd.f5 (OpenSpec.ofChange Rows.fnExactSignSpec) false w args) (Rows.fnExactSignSpec.post enc Tryd.prog Tryd.f5 false true false false) := by
  refine returnsInHanded_of_change_and (C := Tryd.checked) (X := fun w _ => laidMetH Tryd.prog (XGlob.laidF (H := Unit)) w) (fun _ _ _ hh h => h.of_heap hh) own started (by kernel_rfl) Tryd.func5
    (wit os H enc) ?_
  intro W base args ds gs before hval0 hW hcnd hsz0 hL _
  have hval : ∀ (j : Nat) t v, Tryd.f5.params[j]? = some t → args[j]? = some v → Value.okWide Tryd.prog W .any base t v := hval0
  have hW' := hW
  obtain ⟨p, q, hA0, hV, rfl, hfz, hnd⟩ := hW
  have hA : DataW.TrodAll enc Tryd.prog W 0 (fun _ => true) true Tryd.f5.params.toList args.toList ds p := hA0
  rw [Tryd.params5] at hA hval
  obtain ⟨v0, vs0, d0, ds0, p0, q0, hargs, rfl, rfl, h0, r0⟩ := trodAll_cons hA
  obtain ⟨v1, vs1, d1, ds1, p1, q1, rfl, rfl, rfl, h1, r1⟩ := trodAll_cons r0
  obtain ⟨v2, vs2, d2, ds2, p2, q2, rfl, rfl, rfl, h2, r2⟩ := trodAll_cons r1
  obtain ⟨v3, vs3, d3, ds3, p3, q3, rfl, rfl, rfl, h3, r3⟩ := trodAll_cons r2
  obtain ⟨rfl, rfl, rfl⟩ := trodAll_nil r3
  obtain rfl : args = #[v0, v1, v2, v3] := by cases args; simp_all
  have hV2 := hV
  obtain ⟨gg, tt, cs0, fuel, dg, pg, rfl, hg1, hg2, hg3, hg4, rfl⟩ := trodVars_one hV
  obtain ⟨A0, len0, cap0, rfl⟩ := okWide_slice Tryd.underlying22 (hval 0 22 v0 rfl rfl)
  obtain ⟨cs, rfl, hcs⟩ := okWide_struct Tryd.underlying31 (hval 1 31 v1 rfl rfl)
  have k0 := h0
  have k1 := h1
  have k2 := h2
  have k3 := h3
  have lt3 : ∀ x ∈ p3, x.block < W.heap.size := by obtain ⟨m, hm⟩ := k3; exact DataW.trod_lt m _ _ _ hm
  have lt2 : ∀ x ∈ p2, x.block < W.heap.size := by obtain ⟨m, hm⟩ := k2; exact DataW.trod_lt m _ _ _ hm
  have lt1 : ∀ x ∈ p1, x.block < W.heap.size := by obtain ⟨m, hm⟩ := k1; exact DataW.trod_lt m _ _ _ hm
  have lt0 : ∀ x ∈ p0, x.block < W.heap.size := by obtain ⟨m, hm⟩ := k0; exact DataW.trod_lt m _ _ _ hm
  obtain ⟨l, hl1, hl2, hl3, hl4⟩ : ∃ l : List Int, l.length = len0 ∧ len0 ≤ cap0 ∧ l.length ≤ maxLen ∧ Kd.C (Kd.int .u8) W A0 l.length l := by
    obtain ⟨fuel, hf⟩ := h0
    obtain ⟨A, c, l, e, g1, g2, g3, _⟩ := bytes_of_trod hf
    simp [Value.cells] at e
    obtain ⟨rfl, rfl, rfl⟩ := e
    exact ⟨l, rfl, g1, g2, g3⟩
  obtain ⟨a, b, e⟩ : ∃ a b : ByteArray, cs.toList = [.string a, .string b] := by
    obtain ⟨fuel, hf⟩ := h1
    exact key_of_trod hf
  obtain rfl : cs = #[.string a, .string b] := Array.toList_inj.1 e
  obtain ⟨a2, rfl, rfl, rfl, w2⟩ := open_int Tryd.underlying2 (hval 2 2 v2 rfl rfl) h2
  obtain ⟨a3, rfl, rfl, rfl, w3⟩ := open_string Tryd.underlying9 (hval 3 9 v3 rfl rfl) h3
  clear hA0 hval0 hsz0
  subst hl1
  refine (F.laws_FnExactSign.calls 1100012 A0 cap0 l a b a2 a3 true W hl4 hl2 (Pure.FnExactSign l a b a2 a3) (XGlob.glob_of_laid hL)).mono fun e W' ⟨he, bel⟩ => ?_
  subst he
  exact ⟨_, rfl, _, _, _, [], _, _, hW', trodAll_mk1 (shut_bool Tryd.underlying4 _), (trodAll_cons_mk (Below.trod laidOut (by kernel_rfl) (of_decide_eq_true (by kernel_rfl)) k0 bel lt0) (trodAll_cons_mk (Below.trod laidOut (by kernel_rfl) (of_decide_eq_true (by kernel_rfl)) k1 bel lt1) (trodAll_cons_mk (Below.trod laidOut (by kernel_rfl) (of_decide_eq_true (by kernel_rfl)) k2 bel lt2) (trodAll_cons_mk (Below.trod laidOut (by kernel_rfl) (of_decide_eq_true (by kernel_rfl)) k3 bel lt3) trodAll_mk0)))), bel.trodVars laidOut (by kernel_rfl) hV2, bel.frame _, fun h => by cases h⟩
theorem over : Rows.fnExactSignRow.holds Tryd.pinned (OpenSpec.ofChange Rows.fnExactSignSpec) :=
  OpenClaim.holds_of_wide 5 Tryd.f5 rfl rfl rfl rfl rfl rfl rfl ⟨rfl, rfl, rfl, rfl, rfl⟩ rfl rfl rfl rfl rfl (by kernel_rfl) Tryd.func5 (by kernel_rfl)
    (of_decide_eq_true (by kernel_rfl)) (by unfold Func.isWrapper; first | (rw [if_pos (by decide +kernel)]; kernel_rfl) | (rw [if_neg (by decide +kernel)]; exact ⟨rfl, rfl⟩))
    (fun os started H enc _ => lifted os started H enc)
end Go.Proofs.YtblpeegpjjcemaaDoor.fnExactSign
namespace Go.Proofs.YtblpeegpjjcemaaDoor
open Go
/-- The tied card. -/
theorem fnExactSign_holds : Rows.FnExactSignCardSaid :=
  Claim7.holds_tied_plain_at .later [] [.data] true (true, "04d9e42fe38881d8757e09f606673850d10c48324fe124ca3e0b7df14da17ab7") false
    fnExactSign.over (fun _ h => by cases h) (by kernel_rfl) (fun _ h => by cases h) fnExactSign_row_tie rfl ⟨rfl, rfl⟩ (by kernel_rfl) rfl
    (fun f fn hf hfn => by
      obtain rfl : f = 5 := Option.some.inj ((show Tryd.prog.funcNamed "loop.example/s01858/laws.FnExactSign" = some 5 by kernel_rfl).symm.trans hf) |>.symm
      obtain rfl : fn = Tryd.f5 := (Option.some.inj (Tryd.func5.symm.trans hfn)).symm
      exact ⟨by kernel_rfl, fun j t ht => by
        have hall : (Tryd.f5.params.all fun u => !Tryd.prog.wantsStandIn u) = true := by kernel_rfl
        have hm := Array.all_eq_true'.1 hall t (Array.mem_of_getElem? ht)
        exact (show Tryd.prog.wantsStandIn t = false by simpa using hm)⟩)
    (by kernel_rfl)
#print axioms fnExactSign_holds
end Go.Proofs.YtblpeegpjjcemaaDoor
