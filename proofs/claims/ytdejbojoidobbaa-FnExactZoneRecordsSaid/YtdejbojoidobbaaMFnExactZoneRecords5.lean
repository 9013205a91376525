/- Part 5 of 5 of the proof of FnExactZoneRecords: what each Go function on its way computes, that the Go code does just this, and what the law says of it. No condition beyond the statement's own. -/
import Derived.Lib.Bytes
import Derived.Test.YtdejbojoidobbaaRows
import Derived.WalkKit
import Derived.ProofKit
import Derived.OpenShut
import Derived.ShutString
import Derived.ChangeOld
import Derived.Below
import Derived.SizedLaws
import Derived.SliceStrings
import Derived.Deep.Slices
import Derived.ChangeSame
import Derived.ChangeArms
import Derived.Test.YtdejbojoidobbaaMFnExactZoneRecords4
namespace Go.Proofs.Ytdejbojoidobbaa.Base
open Go.RowKit Go.Proofs.YtdejbojoidobbaaW.PrintWords Go.Proofs.YtdejbojoidobbaaW.PrintMore

theorem w64 {x : Int} (h0 : -9223372036854775808 ≤ x) (h1 : x ≤ 9223372036854775807) : wrap64 x = x := by
  unfold wrap64
  omega

def L (s : ByteArray) : List UInt8 := s.data.toList
def B (l : List UInt8) : ByteArray := ⟨l.toArray⟩
theorem L_B (l : List UInt8) : L (B l) = l := by simp [L, B]
theorem B_L (s : ByteArray) : B (L s) = s := by simp [L, B]
theorem L_inj {a b : ByteArray} (h : L a = L b) : a = b := by rw [← B_L a, ← B_L b, h]
theorem L_iff {a b : ByteArray} : L a = L b ↔ a = b := ⟨L_inj, fun h => by rw [h]⟩
theorem size_L (s : ByteArray) : s.size = (L s).length := by simp [L]
theorem toL (s : ByteArray) : s.toList = L s := Lib.toList_data s
theorem L_extract (s : ByteArray) (i j : Nat) : L (s.extract i j) = ((L s).drop i).take (j - i) := by
  simp [L, ByteArray.data_extract]
theorem L_append (a b : ByteArray) : L (a ++ b) = L a ++ L b := by
  simp [L, ByteArray.data_append]
theorem bt_L (s : ByteArray) (i : Int) : bt s i = (((L s).getD i.toNat 0).toNat : Int) := by
  unfold bt
  split
  · rename_i h
    have h' : i.toNat < (L s).length := by rw [← size_L]; exact h
    rw [List.getD_eq_getElem?_getD, List.getElem?_eq_getElem h']
    rfl
  · rename_i h
    have h' : (L s).length ≤ i.toNat := by rw [← size_L]; omega
    rw [List.getD_eq_getElem?_getD, List.getElem?_eq_none h']
    rfl
theorem bt_mid {x : ByteArray} {p : List UInt8} {c : UInt8} {r : List UInt8} (h : L x = p ++ c :: r) {i : Int} (hi : i = (p.length : Int)) : bt x i = (c.toNat : Int) := by
  rw [bt_L, h, hi]
  simp [List.getD_eq_getElem?_getD]
theorem bt_cons {x : ByteArray} {c : UInt8} {r : List UInt8} (h : L x = c :: r) : bt x 0 = (c.toNat : Int) := bt_mid (p := []) h rfl
theorem L_strOfNums (xs : List Int) : L (strOfNums xs) = xs.map fun n => UInt8.ofNat n.toNat := by simp [L, strOfNums]
theorem byte_le (c : UInt8) : (c.toNat : Int) ≤ 255 := by have := c.toNat_lt; omega
theorem byte_id (c : UInt8) : UInt8.ofNat ((c.toNat : Int)).toNat = c := by simp

theorem drop_len {α : Type} (p t : List α) (k : Nat) : (p ++ t).drop (p.length + k) = t.drop k := by
  rw [List.drop_append, List.drop_eq_nil_of_le (by omega), List.nil_append, Nat.add_sub_cancel_left]
theorem getD_len {α : Type} (p t : List α) (k : Nat) (d : α) : (p ++ t).getD (p.length + k) d = t.getD k d := by
  simp [List.getD_eq_getElem?_getD, List.getElem?_append_right]

/-- The labels of a name's bytes; none: they are no name (but for the limit on the whole). -/
def labs : List UInt8 → Option (List ByteArray)
  | [] => none
  | c :: r => if c.toNat = 0 then (if r = [] then some [] else none) else if 63 < c.toNat then none else if r.length < c.toNat then none else (labs (r.drop c.toNat)).map (B (r.take c.toNat) :: ·)
  termination_by l => l.length
  decreasing_by simp; omega

/-- The labels of a name. -/
def names (l : List UInt8) : Option (List ByteArray) := if l.length < 1 ∨ 255 < l.length then none else labs l

/-- What a cut in labels answers that had come to some. -/
def res (acc : List ByteArray) : Option (List ByteArray) → List ByteArray × Bool
  | none => ([], false)
  | some ls => (acc ++ ls, true)
theorem res_map (acc : List ByteArray) (b : ByteArray) (o : Option (List ByteArray)) : res acc (o.map (b :: ·)) = res (acc ++ [b]) o := by
  cases o <;> simp [res]

/-- What the other cut in labels leaves where it fails. -/
def jk (acc : List ByteArray) : List UInt8 → List ByteArray
  | [] => []
  | c :: r => if c.toNat = 0 then acc else if 63 < c.toNat then [] else if r.length < c.toNat then [] else jk (acc ++ [B (r.take c.toNat)]) (r.drop c.toNat)
  termination_by l => l.length
  decreasing_by simp; omega
def res2 (acc : List ByteArray) (l : List UInt8) : List ByteArray × Bool := match labs l with
  | none => (jk acc l, false)
  | some ls => (acc ++ ls, true)
theorem labs_count : ∀ (n : Nat) (l : List UInt8), l.length ≤ n → ∀ ls, labs l = some ls → ls.length + 1 ≤ l.length := by
  intro n
  induction n with
  | zero =>
    intro l hl ls h
    obtain rfl : l = [] := List.length_eq_zero_iff.1 (by omega)
    simp [labs] at h
  | succ n ih =>
    intro l hl ls h
    cases l with
    | nil => simp [labs] at h
    | cons c r =>
      simp only [List.length_cons] at hl ⊢
      rw [labs] at h
      by_cases h0 : c.toNat = 0
      · rw [if_pos h0] at h
        by_cases hr : r = []
        · rw [if_pos hr] at h
          obtain rfl := Option.some.inj h
          simp
        · rw [if_neg hr] at h
          cases h
      · rw [if_neg h0] at h
        by_cases h63 : 63 < c.toNat
        · rw [if_pos h63] at h
          cases h
        · rw [if_neg h63] at h
          by_cases hl2 : r.length < c.toNat
          · rw [if_pos hl2] at h
            cases h
          · rw [if_neg hl2] at h
            obtain ⟨t, ht, rfl⟩ := Option.map_eq_some_iff.1 h
            have := ih (r.drop c.toNat) (by simp; omega) t ht
            simp at this ⊢
            omega
theorem names_count {l : List UInt8} {ls : List ByteArray} (h : names l = some ls) : ls.length ≤ 254 := by
  unfold names at h
  split at h
  · cases h
  · have := labs_count _ l (Nat.le_refl _) ls h
    omega
end Go.Proofs.Ytdejbojoidobbaa.Base
namespace Go.Proofs.Ytdejbojoidobbaa.Pure
open Go.RowKit Go.Proofs.Ytdejbojoidobbaa.F Go.Proofs.Ytdejbojoidobbaa.Base Go.Proofs.YtdejbojoidobbaaW.PrintWords Go.Proofs.YtdejbojoidobbaaW.PrintLast Go.Proofs.YtdejbojoidobbaaW.PrintMore
set_option linter.unusedVariables false
set_option linter.unusedSimpArgs false
theorem laws_markText_l0 : ∀ (d k : Nat) (x : Int) (s : ByteArray), 0 ≤ x → x ≤ 1000000000000000000 → x < 10 ^ d → d < k → s.size + d ≤ 1000 → ∃ r, laws_markText.l0 k x s = some r := by
  intro d
  induction d with
  | zero =>
    intro k x s h0 h18 h1 hk hs
    obtain ⟨k, rfl⟩ : ∃ m, k = m + 1 := ⟨k - 1, by omega⟩
    simp only [laws_markText.l0]
    rw [if_neg (by omega), if_pos (by omega)]
    exact ⟨_, rfl⟩
  | succ d ih =>
    intro k x s h0 h18 h1 hk hs
    obtain ⟨k, rfl⟩ : ∃ m, k = m + 1 := ⟨k - 1, by omega⟩
    simp only [laws_markText.l0, Option.bind_some]
    by_cases hx : x > 0
    · rw [if_pos hx]
      have hsz : (strOfNums [(wrap64 (48 + (Int.tmod x 10))) % 256]).size = 1 := by simp [strOfNums]; rfl
      rw [if_pos (by rw [hsz]; omega), Int.tdiv_eq_ediv_of_nonneg h0, w64 (by omega) (by omega)]
      have h10 : x / 10 < 10 ^ d := by
        have : (10 : Int) ^ (d + 1) = 10 ^ d * 10 := Int.pow_succ 10 d
        omega
      exact ih k (x / 10) _ (by omega) (by omega) h10 (by omega) (by rw [ByteArray.size_append, hsz]; omega)
    · rw [if_neg hx, if_pos (by omega)]
      exact ⟨_, rfl⟩
/-- The mark of a number. -/
def mt (n : Int) : ByteArray := (laws_markText.f 30 n).getD ByteArray.empty
theorem laws_markText_eq (n : Int) (h0 : 0 ≤ n) (h1 : n ≤ 1000000000000000000) (k : Nat) (hk : 30 ≤ k) : laws_markText.f k n = some (mt n) := by
  have h30 : laws_markText.f 30 n = some (mt n) := by
    unfold mt
    have : ∃ r, laws_markText.f 30 n = some r := by
      unfold laws_markText.f
      by_cases h : n ≤ 0
      · rw [if_pos h]; exact ⟨_, rfl⟩
      · rw [if_neg h]; exact laws_markText_l0 20 30 n _ h0 h1 (by omega) (by omega) (by show (0 : Nat) + 20 ≤ 1000; omega)
    obtain ⟨r, hr⟩ := this
    rw [hr]; rfl
  exact at_rounds (laws_markText.mono n) hk h30

end Go.Proofs.Ytdejbojoidobbaa.Pure
namespace Go.Proofs.Ytdejbojoidobbaa.Pure
open Go.RowKit Go.Proofs.Ytdejbojoidobbaa.F Go.Proofs.Ytdejbojoidobbaa.Base Go.Proofs.YtdejbojoidobbaaW.PrintWords Go.Proofs.YtdejbojoidobbaaW.PrintLast Go.Proofs.YtdejbojoidobbaaW.PrintMore
set_option linter.unusedVariables false
set_option linter.unusedSimpArgs false
def marks (n : Nat) (m : Int) : List ByteArray := (List.range n).map fun (j : Nat) => mt (m + (j : Int))
theorem marks_length (n : Nat) (m : Int) : (marks n m).length = n := by simp [marks]
theorem marks_succ (n : Nat) (m : Int) : marks (n + 1) m = marks n m ++ [mt (m + (n : Int))] := by simp [marks, List.range_succ]
theorem laws_markStringS_l0 (m : Int) (hm0 : 0 ≤ m) : ∀ (d k i : Nat) (r : List ByteArray), r.length = d → d + 30 < k → m + i + d ≤ 1000000000000000 → laws_markStringS.l0 k (marks i m ++ r) (m + i) i = some (m + i + d, marks (i + d) m) := by
  intro d
  induction d with
  | zero =>
    intro k i r hr hk hb
    obtain ⟨k, rfl⟩ : ∃ m, k = m + 1 := ⟨k - 1, by omega⟩
    obtain rfl : r = [] := List.length_eq_zero_iff.1 hr
    simp only [laws_markStringS.l0, List.append_nil]
    rw [if_neg (by rw [marks_length]; omega)]
    simp
  | succ d ih =>
    intro k i r hr hk hb
    obtain ⟨k, rfl⟩ : ∃ m, k = m + 1 := ⟨k - 1, by omega⟩
    obtain ⟨c, r, rfl⟩ : ∃ c t, r = c :: t := by cases r with | nil => simp at hr | cons c t => exact ⟨c, t, rfl⟩
    simp only [List.length_cons] at hr
    simp only [laws_markStringS.l0]
    rw [if_pos (by simp [marks_length]; omega), laws_markText_eq _ (by omega) (by omega) k (by omega)]
    simp only [Option.bind_some]
    rw [if_pos (by omega), w64 (by omega) (by omega), w64 (by omega) (by omega)]
    have e : (marks i m ++ c :: r).set (i : Int).toNat (mt (m + i)) = marks (i + 1) m ++ r := by
      rw [marks_succ, Int.toNat_natCast, List.set_append_right _ _ (by rw [marks_length]; exact Nat.le_refl _), marks_length]
      simp
    rw [e]
    have := ih k (i + 1) r (by omega) (by omega) (by omega)
    rw [show m + ((i + 1 : Nat) : Int) = m + (i : Int) + 1 from by omega, show ((i + 1 : Nat) : Int) = (i : Int) + 1 from by omega] at this
    rw [this]
    simp only [Option.some.injEq, Prod.mk.injEq]
    exact ⟨by omega, by rw [show i + 1 + d = i + (d + 1) from by omega]⟩
theorem laws_markStringS_eq (l : List ByteArray) (m : Int) (hm0 : 0 ≤ m) (k : Nat) (hk : l.length + 30 < k) (hb : m + l.length ≤ 1000000000000000) : laws_markStringS.f k l m = some (m + l.length, marks l.length m) := by
  have := laws_markStringS_l0 m hm0 l.length k 0 l rfl hk (by omega)
  unfold laws_markStringS.f
  simpa [marks] using this

end Go.Proofs.Ytdejbojoidobbaa.Pure
namespace Go.Proofs.Ytdejbojoidobbaa.Pure
open Go.RowKit Go.Proofs.Ytdejbojoidobbaa.F Go.Proofs.Ytdejbojoidobbaa.Base Go.Proofs.YtdejbojoidobbaaW.PrintWords Go.Proofs.YtdejbojoidobbaaW.PrintLast Go.Proofs.YtdejbojoidobbaaW.PrintMore
set_option linter.unusedVariables false
set_option linter.unusedSimpArgs false
def dlen (l : List S43) : Nat := (l.map fun r => r.f3.length).sum
theorem dlen_cons (r : S43) (l : List S43) : dlen (r :: l) = r.f3.length + dlen l := by simp [dlen]
theorem laws_markSetS_l0 : ∀ (d k i : Nat) (x : List S43) (m : Int), (∀ r ∈ x.drop i, r.f3.length ≤ 1048576) → i + d = x.length → d + 1048700 < k → 0 ≤ m → i + d ≤ 1000000000 → m + 3 * d + dlen (x.drop i) ≤ 1000000000000000 → ∃ r1 r2, laws_markSetS.l0 k x m (i : Int) = some (r1, r2) ∧ m ≤ r1 := by
  intro d
  induction d with
  | zero =>
    intro k i x m hd hi hk h0 hI hb
    obtain ⟨k, rfl⟩ : ∃ m, k = m + 1 := ⟨k - 1, by omega⟩
    rw [laws_markSetS.l0, if_neg (by omega)]
    exact ⟨_, _, rfl, Int.le_refl _⟩
  | succ d ih =>
    intro k i x m hd hi hk h0 hI hb
    obtain ⟨k, rfl⟩ : ∃ m, k = m + 1 := ⟨k - 1, by omega⟩
    have hi' : i < x.length := by omega
    have hel : rd_T43 x (i : Int) = x[i] := by simp [rd_T43, List.getD_eq_getElem?_getD, hi']
    rw [List.drop_eq_getElem_cons hi', dlen_cons] at hb
    rw [List.drop_eq_getElem_cons hi'] at hd
    have hdi := hd x[i] (List.mem_cons_self)
    rw [laws_markSetS.l0, if_pos (by omega), laws_markText_eq _ (by omega) (by omega) k (by omega), Option.bind_some, if_pos (by omega), hel, w64 (x := m + 1) (by omega) (by omega), w64 (x := m + 1 + 1) (by omega) (by omega), w64 (x := m + 1 + 1 + 1) (by omega) (by omega), laws_markStringS_eq _ _ (by omega) k (by omega) (by omega), Option.bind_some, w64 (x := (i : Int) + 1) (by omega) (by omega), Int.toNat_natCast]
    have hdrop : ∀ y, (x.set i y).drop (i + 1) = x.drop (i + 1) := fun y => List.drop_set_of_lt (by omega)
    obtain ⟨r1, r2, hr, hle⟩ := ih k (i + 1) (x.set i ⟨mt m, m + 1, m + 1 + 1, marks x[i].f3.length (m + 1 + 1 + 1)⟩) (m + 1 + 1 + 1 + (x[i].f3.length : Int)) (by rw [hdrop]; exact fun r hr => hd r (List.mem_cons_of_mem _ hr)) (by rw [List.length_set]; omega) (by omega) (by omega) (by omega) (by rw [hdrop]; omega)
    rw [show ((i + 1 : Nat) : Int) = (i : Int) + 1 by omega] at hr
    exact ⟨r1, r2, hr, by omega⟩
theorem laws_markZone_eq (a : ByteArray) (l : List S43) (hl : l.length ≤ 1048576) (hd : ∀ r ∈ l, r.f3.length ≤ 1048576) (hs : dlen l ≤ 1048576) (k : Nat) (hk : l.length + 1048700 < k) : ∃ r, laws_markZone.f k a l 1 = some r ∧ 0 ≤ r := by
  unfold laws_markZone.f laws_markSetS.f
  obtain ⟨r1, r2, hr, hle⟩ := laws_markSetS_l0 l.length k 0 l 1 (by rw [List.drop_zero]; exact hd) (by omega) hk (by omega) (by omega) (by rw [List.drop_zero]; omega)
  rw [show ((0 : Nat) : Int) = 0 from rfl] at hr
  rw [hr]
  exact ⟨r1, rfl, by omega⟩

end Go.Proofs.Ytdejbojoidobbaa.Pure
namespace Go.Proofs.Ytdejbojoidobbaa.Pure
open Go.RowKit Go.Proofs.Ytdejbojoidobbaa.F Go.Proofs.Ytdejbojoidobbaa.Base Go.Proofs.YtdejbojoidobbaaW.PrintWords Go.Proofs.YtdejbojoidobbaaW.PrintLast Go.Proofs.YtdejbojoidobbaaW.PrintMore
set_option linter.unusedVariables false
set_option linter.unusedSimpArgs false
def recs (s : S43) : List S48 := s.f3.map fun d => ⟨s.f0, s.f1, 1, s.f2, d⟩
theorem recs_length (s : S43) : (recs s).length = s.f3.length := by simp [recs]
theorem flat_length (l : List S43) : (l.flatMap recs).length = dlen l := by
  induction l with
  | nil => rfl
  | cons s l ih => rw [List.flatMap_cons, List.length_append, recs_length, ih, dlen_cons]
theorem Set_records_l0 (a : ByteArray) (b c : Int) (l : List ByteArray) (hl : l.length ≤ 1000000000) : ∀ (d k i : Nat) (p : List S48), i + d = l.length → d < k → p.length ≤ 1000000000 + i → impl_Set_records.l0 k p l (l.length : Int) (i : Int) a b c l = some (p ++ (l.drop i).map fun d => ⟨a, b, 1, c, d⟩) := by
  intro d
  induction d with
  | zero =>
    intro k i p hi hk hp
    obtain ⟨k, rfl⟩ : ∃ m, k = m + 1 := ⟨k - 1, by omega⟩
    rw [impl_Set_records.l0, if_neg (by omega), List.drop_of_length_le (by omega)]
    simp
  | succ d ih =>
    intro k i p hi hk hp
    obtain ⟨k, rfl⟩ : ∃ m, k = m + 1 := ⟨k - 1, by omega⟩
    have hi' : i < l.length := by omega
    have hel : rdOf ByteArray.empty l (i : Int) = l[i] := by simp [rdOf, List.getD_eq_getElem?_getD, hi']
    rw [impl_Set_records.l0, if_pos (by omega), if_pos (by omega), if_pos (by omega), if_pos (by omega), w64 (by omega) (by omega), hel]
    have := ih k (i + 1) (p ++ [⟨a, b, 1, c, l[i]⟩]) (by omega) (by omega) (by rw [List.length_append]; simp; omega)
    rw [show ((i + 1 : Nat) : Int) = (i : Int) + 1 by omega] at this
    rw [this, List.drop_eq_getElem_cons hi', List.map_cons, List.append_assoc]
    rfl
theorem Set_records_eq (s : S43) (hl : s.f3.length ≤ 1000000000) (k : Nat) (hk : s.f3.length < k) : impl_Set_records.f k s.f0 s.f1 s.f2 s.f3 = some (recs s) := by
  unfold impl_Set_records.f
  have := Set_records_l0 s.f0 s.f1 s.f2 s.f3 hl s.f3.length k 0 [] (by omega) hk (by simp)
  rw [show ((0 : Nat) : Int) = 0 from rfl] at this
  rw [this, List.drop_zero]
  rfl
/-- What ZoneRecords answers. -/
def zrecs (l : List S43) : List S48 := if 500 < l.length ∨ 500 < dlen l then [] else l.flatMap recs
theorem impl_ZoneRecords_l0 (l : List S43) (hl : l.length ≤ 500) (hd : ∀ r ∈ l, r.f3.length ≤ 1048576) : ∀ (d k i : Nat) (p : List S48), i + d = l.length → d + 1048577 < k → p.length ≤ 500 → impl_ZoneRecords.l0 k p l (l.length : Int) (i : Int) = some (if 500 < p.length + dlen (l.drop i) then [] else p ++ (l.drop i).flatMap recs) := by
  intro d
  induction d with
  | zero =>
    intro k i p hi hk hp
    obtain ⟨k, rfl⟩ : ∃ m, k = m + 1 := ⟨k - 1, by omega⟩
    rw [impl_ZoneRecords.l0, if_neg (by omega), List.drop_of_length_le (by omega), if_neg (by simp [dlen]; omega)]
    simp
  | succ d ih =>
    intro k i p hi hk hp
    obtain ⟨k, rfl⟩ : ∃ m, k = m + 1 := ⟨k - 1, by omega⟩
    have hi' : i < l.length := by omega
    have hel : rd_T43 l (i : Int) = l[i] := by simp [rd_T43, List.getD_eq_getElem?_getD, hi']
    have hdi := hd l[i] (List.getElem_mem _)
    rw [impl_ZoneRecords.l0, if_pos (by omega), if_pos (by omega), if_pos (by omega), hel, w64 (x := (p.length : Int) + (l[i].f3.length : Int)) (by omega) (by omega), List.drop_eq_getElem_cons hi', dlen_cons]
    by_cases h : (p.length : Int) + (l[i].f3.length : Int) > 500
    · rw [if_pos h, if_pos (by omega)]
    · rw [if_neg h, Set_records_eq l[i] (by omega) k (by omega), Option.bind_some, if_pos (by rw [recs_length]; omega), w64 (by omega) (by omega)]
      have := ih k (i + 1) (p ++ recs l[i]) (by omega) (by omega) (by rw [List.length_append, recs_length]; omega)
      rw [show ((i + 1 : Nat) : Int) = (i : Int) + 1 by omega] at this
      rw [this, List.length_append, recs_length, List.flatMap_cons, List.append_assoc, Nat.add_assoc]
theorem impl_ZoneRecords_eq (a : ByteArray) (l : List S43) (hd : ∀ r ∈ l, r.f3.length ≤ 1048576) (k : Nat) (hk : 1050000 ≤ k) : impl_ZoneRecords.f k a l = some (zrecs l) := by
  unfold impl_ZoneRecords.f zrecs
  by_cases h : (l.length : Int) > 500
  · rw [if_pos h, if_pos (Or.inl (by omega))]
  · rw [if_neg h]
    have := impl_ZoneRecords_l0 l (by omega) hd l.length k 0 [] (by omega) (by omega) (by simp)
    rw [show ((0 : Nat) : Int) = 0 from rfl] at this
    rw [this, List.drop_zero, List.length_nil, Nat.zero_add]
    by_cases h2 : 500 < dlen l
    · rw [if_pos h2, if_pos (Or.inr h2)]
    · rw [if_neg h2, if_neg (by omega), List.nil_append]

end Go.Proofs.Ytdejbojoidobbaa.Pure
namespace Go.Proofs.Ytdejbojoidobbaa.Pure
open Go.RowKit Go.Proofs.Ytdejbojoidobbaa.F Go.Proofs.Ytdejbojoidobbaa.Base Go.Proofs.YtdejbojoidobbaaW.PrintWords Go.Proofs.YtdejbojoidobbaaW.PrintLast Go.Proofs.YtdejbojoidobbaaW.PrintMore
set_option linter.unusedVariables false
set_option linter.unusedSimpArgs false
theorem laws_eqRR_refl (a : ByteArray) (b c d : Int) (e : ByteArray) : laws_eqRR.f a b c d e a b c d e = some true := by
  unfold laws_eqRR.f
  simp
theorem laws_eqRRS_l0 (l : List S48) (hl : l.length ≤ 4611686018427387904) : ∀ (d k : Nat) (i : Int), 0 ≤ i → i + d = l.length → d < k → laws_eqRRS.l0 k l l i = some true := by
  intro d
  induction d with
  | zero =>
    intro k i h0 h1 hk
    obtain ⟨k, rfl⟩ : ∃ m, k = m + 1 := ⟨k - 1, by omega⟩
    simp only [laws_eqRRS.l0]
    rw [if_neg (by omega)]
  | succ d ih =>
    intro k i h0 h1 hk
    obtain ⟨k, rfl⟩ : ∃ m, k = m + 1 := ⟨k - 1, by omega⟩
    simp only [laws_eqRRS.l0]
    rw [if_pos (by omega), if_pos h0, if_pos (by omega), laws_eqRR_refl, Option.bind_some, if_pos rfl, w64 (by omega) (by omega)]
    exact ih k (i + 1) (by omega) (by omega) (by omega)
theorem laws_eqRRS_refl (l : List S48) (hl : l.length ≤ 4611686018427387904) (k : Nat) (hk : l.length < k) : laws_eqRRS.f k l l = some true := by
  unfold laws_eqRRS.f
  rw [if_pos rfl]
  exact laws_eqRRS_l0 l hl l.length k 0 (by omega) (by omega) hk

end Go.Proofs.Ytdejbojoidobbaa.Pure
namespace Go.Proofs.Ytdejbojoidobbaa.Pure
open Go.RowKit Go.Proofs.Ytdejbojoidobbaa.F Go.Proofs.Ytdejbojoidobbaa.Base Go.Proofs.YtdejbojoidobbaaW.PrintWords Go.Proofs.YtdejbojoidobbaaW.PrintLast Go.Proofs.YtdejbojoidobbaaW.PrintMore
set_option linter.unusedVariables false
set_option linter.unusedSimpArgs false
theorem laws_eqStringS_l0 (l : List ByteArray) (hl : l.length ≤ 4611686018427387904) : ∀ (d k : Nat) (i : Int), 0 ≤ i → i + d = l.length → d < k → laws_eqStringS.l0 k l l i = some true := by
  intro d
  induction d with
  | zero =>
    intro k i h0 h1 hk
    obtain ⟨k, rfl⟩ : ∃ m, k = m + 1 := ⟨k - 1, by omega⟩
    simp only [laws_eqStringS.l0]
    rw [if_neg (by omega)]
  | succ d ih =>
    intro k i h0 h1 hk
    obtain ⟨k, rfl⟩ : ∃ m, k = m + 1 := ⟨k - 1, by omega⟩
    simp only [laws_eqStringS.l0]
    rw [if_pos (by omega), if_pos h0, if_pos (by omega), if_pos trivial, w64 (by omega) (by omega)]
    exact ih k (i + 1) (by omega) (by omega) (by omega)
theorem laws_eqStringS_refl (l : List ByteArray) (hl : l.length ≤ 4611686018427387904) (k : Nat) (hk : l.length < k) : laws_eqStringS.f k l l = some true := by
  unfold laws_eqStringS.f
  rw [if_pos rfl]
  exact laws_eqStringS_l0 l hl l.length k 0 (by omega) (by omega) hk

end Go.Proofs.Ytdejbojoidobbaa.Pure
namespace Go.Proofs.Ytdejbojoidobbaa.Pure
open Go.RowKit Go.Proofs.Ytdejbojoidobbaa.F Go.Proofs.Ytdejbojoidobbaa.Base Go.Proofs.YtdejbojoidobbaaW.PrintWords Go.Proofs.YtdejbojoidobbaaW.PrintLast Go.Proofs.YtdejbojoidobbaaW.PrintMore
set_option linter.unusedVariables false
set_option linter.unusedSimpArgs false
theorem laws_eqSetS_l0 (l : List S43) (hl : l.length ≤ 1000000000) (hd : ∀ r ∈ l, r.f3.length ≤ 1048576) : ∀ (d k i : Nat), i + d = l.length → d + 1048577 < k → laws_eqSetS.l0 k l l (i : Int) = some true := by
  intro d
  induction d with
  | zero =>
    intro k i h1 hk
    obtain ⟨k, rfl⟩ : ∃ m, k = m + 1 := ⟨k - 1, by omega⟩
    rw [laws_eqSetS.l0, if_neg (by omega)]
  | succ d ih =>
    intro k i h1 hk
    obtain ⟨k, rfl⟩ : ∃ m, k = m + 1 := ⟨k - 1, by omega⟩
    have hi' : i < l.length := by omega
    have hel : rd_T43 l (i : Int) = l[i] := by simp [rd_T43, List.getD_eq_getElem?_getD, hi']
    have hdi := hd l[i] (List.getElem_mem _)
    rw [laws_eqSetS.l0, if_pos (by omega), if_pos (by omega), if_pos (by omega), hel]
    unfold laws_eqSet.f
    rw [if_pos rfl, if_pos rfl, if_pos rfl, laws_eqStringS_refl _ (by omega) k (by omega), Option.bind_some, if_pos rfl, Option.bind_some, if_pos rfl, w64 (by omega) (by omega)]
    exact ih k (i + 1) (by omega) (by omega)
theorem laws_eqZone_refl (a : ByteArray) (l : List S43) (hl : l.length ≤ 1000000000) (hd : ∀ r ∈ l, r.f3.length ≤ 1048576) (k : Nat) (hk : l.length + 1048577 < k) : laws_eqZone.f k a l a l = some true := by
  unfold laws_eqZone.f laws_eqSetS.f
  rw [if_pos rfl, if_pos rfl]
  have := laws_eqSetS_l0 l hl hd l.length k 0 (by omega) (by omega)
  rw [show ((0 : Nat) : Int) = 0 from rfl] at this
  rw [this]; rfl

end Go.Proofs.Ytdejbojoidobbaa.Pure
namespace Go.Proofs.Ytdejbojoidobbaa.Pure
open Go.RowKit Go.Proofs.Ytdejbojoidobbaa.F Go.Proofs.Ytdejbojoidobbaa.Base Go.Proofs.YtdejbojoidobbaaW.PrintWords Go.Proofs.YtdejbojoidobbaaW.PrintLast Go.Proofs.YtdejbojoidobbaaW.PrintMore
set_option linter.unusedVariables false
set_option linter.unusedSimpArgs false
def rrmark (m : Int) : S48 := ⟨mt m, m + 1, m + 1 + 1, m + 1 + 1 + 1, mt (m + 1 + 1 + 1 + 1)⟩
def rrmarks (n : Nat) (m : Int) : List S48 := (List.range n).map fun (j : Nat) => rrmark (m + 5 * (j : Int))
theorem rrmarks_length (n : Nat) (m : Int) : (rrmarks n m).length = n := by simp [rrmarks]
theorem rrmarks_succ (n : Nat) (m : Int) : rrmarks (n + 1) m = rrmarks n m ++ [rrmark (m + 5 * (n : Int))] := by simp [rrmarks, List.range_succ]
theorem laws_markRRS_l0 (m : Int) (hm0 : 0 ≤ m) : ∀ (d k i : Nat) (r : List S48), r.length = d → d + 31 < k → m + 5 * i + 5 * d ≤ 1000000000000000 → laws_markRRS.l0 k (rrmarks i m ++ r) (m + 5 * i) i = some (m + 5 * i + 5 * d, rrmarks (i + d) m) := by
  intro d
  induction d with
  | zero =>
    intro k i r hr hk hb
    obtain ⟨k, rfl⟩ : ∃ m, k = m + 1 := ⟨k - 1, by omega⟩
    obtain rfl : r = [] := List.length_eq_zero_iff.1 hr
    simp only [laws_markRRS.l0, List.append_nil]
    rw [if_neg (by rw [rrmarks_length]; omega)]
    simp
  | succ d ih =>
    intro k i r hr hk hb
    obtain ⟨k, rfl⟩ : ∃ m, k = m + 1 := ⟨k - 1, by omega⟩
    obtain ⟨c, r, rfl⟩ : ∃ c t, r = c :: t := by cases r with | nil => simp at hr | cons c t => exact ⟨c, t, rfl⟩
    simp only [List.length_cons] at hr
    have e1 : ∀ x y : S48, (rrmarks i m ++ x :: r).set (i : Int).toNat y = rrmarks i m ++ y :: r := fun x y => by
      rw [Int.toNat_natCast, List.set_append_right _ _ (by rw [rrmarks_length]; exact Nat.le_refl _), rrmarks_length, Nat.sub_self, List.set_cons_zero]
    have e2 : ∀ x : S48, rd_T48 (rrmarks i m ++ x :: r) (i : Int) = x := fun x => by
      simp [rd_T48, List.getD_eq_getElem?_getD, List.getElem?_append_right, rrmarks_length]
    rw [laws_markRRS.l0, if_pos (by simp [rrmarks_length]; omega), laws_markText_eq _ (by omega) (by omega) k (by omega), Option.bind_some, if_pos (by omega), Option.bind_some]
    simp only [e1, e2]
    rw [w64 (x := m + 5 * (i : Int) + 1) (by omega) (by omega), Option.bind_some]
    simp only [e1, e2]
    rw [w64 (x := m + 5 * (i : Int) + 1 + 1) (by omega) (by omega), Option.bind_some]
    simp only [e1, e2]
    rw [w64 (x := m + 5 * (i : Int) + 1 + 1 + 1) (by omega) (by omega), Option.bind_some]
    simp only [e1, e2]
    rw [w64 (x := m + 5 * (i : Int) + 1 + 1 + 1 + 1) (by omega) (by omega), laws_markText_eq _ (by omega) (by omega) k (by omega), Option.bind_some]
    rw [w64 (x := m + 5 * (i : Int) + 1 + 1 + 1 + 1 + 1) (by omega) (by omega), w64 (x := (i : Int) + 1) (by omega) (by omega)]
    have e : rrmarks i m ++ (⟨mt (m + 5 * (i : Int)), m + 5 * (i : Int) + 1, m + 5 * (i : Int) + 1 + 1, m + 5 * (i : Int) + 1 + 1 + 1, mt (m + 5 * (i : Int) + 1 + 1 + 1 + 1)⟩ : S48) :: r = rrmarks (i + 1) m ++ r := by
      rw [rrmarks_succ, List.append_assoc]
      rfl
    rw [e]
    have := ih k (i + 1) r (by omega) (by omega) (by omega)
    rw [show m + 5 * ((i + 1 : Nat) : Int) = m + 5 * (i : Int) + 1 + 1 + 1 + 1 + 1 from by omega, show ((i + 1 : Nat) : Int) = (i : Int) + 1 from by omega] at this
    rw [this]
    simp only [Option.some.injEq, Prod.mk.injEq]
    exact ⟨by omega, by rw [show i + 1 + d = i + (d + 1) from by omega]⟩
theorem laws_markRRS_eq (l : List S48) (m : Int) (hm0 : 0 ≤ m) (k : Nat) (hk : l.length + 31 < k) (hb : m + 5 * l.length ≤ 1000000000000000) : laws_markRRS.f k l m = some (m + 5 * l.length, rrmarks l.length m) := by
  have := laws_markRRS_l0 m hm0 l.length k 0 l rfl hk (by omega)
  unfold laws_markRRS.f
  simpa [rrmarks] using this
theorem rd_rrmarks (n : Nat) (m : Int) (i : Nat) (h : i < n) : rd_T48 (rrmarks n m) (i : Int) = rrmark (m + 5 * (i : Int)) := by
  simp [rd_T48, rrmarks, List.getD_eq_getElem?_getD, h]

end Go.Proofs.Ytdejbojoidobbaa.Pure
namespace Go.Proofs.Ytdejbojoidobbaa.Pure
open Go.RowKit Go.Proofs.Ytdejbojoidobbaa.F Go.Proofs.Ytdejbojoidobbaa.Base Go.Proofs.YtdejbojoidobbaaW.PrintWords Go.Proofs.YtdejbojoidobbaaW.PrintLast Go.Proofs.YtdejbojoidobbaaW.PrintMore
set_option linter.unusedVariables false
set_option linter.unusedSimpArgs false
theorem laws_heldRRS_l0 (n : Nat) (m : Int) (hm0 : 0 ≤ m) (hb : m + 5 * n ≤ 1000000000000000) : ∀ (d k i : Nat), i + d = n → d + 31 < k → laws_heldRRS.l0 k (rrmarks n m) (m + 5 * i) i = some (m + 5 * n) := by
  intro d
  induction d with
  | zero =>
    intro k i hr hk
    obtain ⟨k, rfl⟩ : ∃ m, k = m + 1 := ⟨k - 1, by omega⟩
    rw [laws_heldRRS.l0, if_neg (by rw [rrmarks_length]; omega)]
    simp only [Option.some.injEq]
    omega
  | succ d ih =>
    intro k i hr hk
    obtain ⟨k, rfl⟩ : ∃ m, k = m + 1 := ⟨k - 1, by omega⟩
    rw [laws_heldRRS.l0, if_pos (by rw [rrmarks_length]; omega), if_pos (by omega), laws_markText_eq _ (by omega) (by omega) k (by omega), Option.bind_some, show rd_T48 (rrmarks n m) (i : Int) = (⟨mt (m + 5 * (i : Int)), m + 5 * (i : Int) + 1, m + 5 * (i : Int) + 1 + 1, m + 5 * (i : Int) + 1 + 1 + 1, mt (m + 5 * (i : Int) + 1 + 1 + 1 + 1)⟩ : S48) from rd_rrmarks n m i (by omega), w64 (x := m + 5 * (i : Int) + 1) (by omega) (by omega), w64 (x := m + 5 * (i : Int) + 1 + 1) (by omega) (by omega), w64 (x := m + 5 * (i : Int) + 1 + 1 + 1) (by omega) (by omega), w64 (x := m + 5 * (i : Int) + 1 + 1 + 1 + 1) (by omega) (by omega), w64 (x := m + 5 * (i : Int) + 1 + 1 + 1 + 1 + 1) (by omega) (by omega), w64 (x := (i : Int) + 1) (by omega) (by omega), laws_markText_eq _ (by omega) (by omega) k (by omega), Option.bind_some]
    rw [if_pos rfl, if_pos rfl, if_pos rfl, if_pos rfl, if_pos rfl]
    have := ih k (i + 1) (by omega) (by omega)
    rw [show m + 5 * ((i + 1 : Nat) : Int) = m + 5 * (i : Int) + 1 + 1 + 1 + 1 + 1 from by omega, show ((i + 1 : Nat) : Int) = (i : Int) + 1 from by omega] at this
    exact this
theorem laws_heldRRS_eq (n : Nat) (m : Int) (hm0 : 0 ≤ m) (k : Nat) (hk : n + 31 < k) (hb : m + 5 * n ≤ 1000000000000000) : laws_heldRRS.f k (rrmarks n m) m = some (m + 5 * n) := by
  have := laws_heldRRS_l0 n m hm0 hb n k 0 (by omega) hk
  unfold laws_heldRRS.f
  simpa using this

end Go.Proofs.Ytdejbojoidobbaa.Pure
namespace Go.Proofs.Ytdejbojoidobbaa.Pure
open Go.RowKit Go.Proofs.Ytdejbojoidobbaa.F Go.Proofs.Ytdejbojoidobbaa.Base Go.Proofs.YtdejbojoidobbaaW.PrintWords Go.Proofs.YtdejbojoidobbaaW.PrintLast Go.Proofs.YtdejbojoidobbaaW.PrintMore
set_option linter.unusedVariables false
set_option linter.unusedSimpArgs false
def dlen1 (l : List S53) : Nat := (l.map fun r => r.f3.length).sum
theorem dlen1_cons (r : S53) (l : List S53) : dlen1 (r :: l) = r.f3.length + dlen1 l := by simp [dlen1]
theorem szS_l0 (l : List ByteArray) (hl : l.length ≤ 1000000000) (hs : ∀ s ∈ l, s.size ≤ 9223372036854775807) : ∀ (d k i : Nat) (x : Int), i + d = l.length → d < k → 0 ≤ x → x ≤ 1048576 → ∃ r, laws_szStringS.l0 k l x (i : Int) = some r ∧ r ≤ x := by
  intro d
  induction d with
  | zero =>
    intro k i x hi hk h0 h1
    obtain ⟨k, rfl⟩ : ∃ m, k = m + 1 := ⟨k - 1, by omega⟩
    rw [laws_szStringS.l0, if_neg (by omega)]
    exact ⟨_, rfl, Int.le_refl _⟩
  | succ d ih =>
    intro k i x hi hk h0 h1
    obtain ⟨k, rfl⟩ : ∃ m, k = m + 1 := ⟨k - 1, by omega⟩
    have hi' : i < l.length := by omega
    have hel : rdOf ByteArray.empty l (i : Int) = l[i] := by simp [rdOf, List.getD_eq_getElem?_getD, hi']
    have hsz := hs l[i] (List.getElem_mem _)
    rw [laws_szStringS.l0, if_pos (by omega), if_pos (by omega), hel, w64 (x := x - ((l[i]).size : Int)) (by omega) (by omega), w64 (x := (i : Int) + 1) (by omega) (by omega)]
    by_cases hneg : x - ((l[i]).size : Int) < 0
    · rw [if_pos hneg]
      exact ⟨_, rfl, by omega⟩
    · rw [if_neg hneg]
      obtain ⟨r, hr, hp⟩ := ih k (i + 1) (x - ((l[i]).size : Int)) (by omega) (by omega) (by omega) (by omega)
      rw [show ((i + 1 : Nat) : Int) = (i : Int) + 1 by omega] at hr
      exact ⟨r, hr, by omega⟩
theorem szS_eq (l : List ByteArray) (hl : l.length ≤ 9223372036854775807) (hs : ∀ s ∈ l, s.size ≤ 9223372036854775807) (x : Int) (h0 : 0 ≤ x) (h1 : x ≤ 1048576) (k : Nat) (hk : 1048576 < k) : ∃ r, laws_szStringS.f k l x = some r ∧ r ≤ x ∧ (0 ≤ r → (l.length : Int) + r ≤ x) := by
  unfold laws_szStringS.f
  rw [w64 (x := x - (l.length : Int)) (by omega) (by omega)]
  by_cases h : x - (l.length : Int) < 0
  · rw [if_pos h]
    exact ⟨_, rfl, by omega, fun h => absurd h (by omega)⟩
  · rw [if_neg h]
    obtain ⟨r, hr, hp⟩ := szS_l0 l (by omega) hs l.length k 0 (x - (l.length : Int)) (by omega) (by omega) (by omega) (by omega)
    exact ⟨r, hr, by omega, fun h0 => by omega⟩
theorem szSet_eq (s : ByteArray) (a b : Int) (l : List ByteArray) (hs : s.size ≤ 9223372036854775807) (hl : l.length ≤ 9223372036854775807) (hd : ∀ s ∈ l, s.size ≤ 9223372036854775807) (x : Int) (h0 : 0 ≤ x) (h1 : x ≤ 1048576) (k : Nat) (hk : 1048576 < k) : ∃ r, laws_szSet.f k s a b l x = some r ∧ r ≤ x ∧ (0 ≤ r → (l.length : Int) + r ≤ x) := by
  unfold laws_szSet.f
  rw [w64 (x := x - (s.size : Int)) (by omega) (by omega)]
  by_cases g1 : x - (s.size : Int) < 0
  · rw [if_pos g1]
    exact ⟨_, rfl, by omega, fun h => absurd h (by omega)⟩
  · rw [if_neg g1]
    obtain ⟨r, hr, h2, h3⟩ := szS_eq l hl hd (x - (s.size : Int)) (by omega) (by omega) k hk
    rw [hr, Option.bind_some]
    by_cases g2 : r < 0
    · rw [if_pos g2]
      exact ⟨_, rfl, by omega, fun h => absurd h (by omega)⟩
    · rw [if_neg g2]
      exact ⟨_, rfl, by omega, fun h => by have := h3 h; omega⟩
theorem szSetS_l0 (l : List S53) (hl : l.length ≤ 1048576) (hs : ∀ r ∈ l, r.f0.size ≤ 9223372036854775807 ∧ r.f3.length ≤ 9223372036854775807 ∧ ∀ s ∈ r.f3, s.size ≤ 9223372036854775807) : ∀ (d k i : Nat) (x : Int), i + d = l.length → d + 1048577 ≤ k → 0 ≤ x → x ≤ 1048576 → ∃ r, laws_szSetS.l0 k l x (i : Int) = some r ∧ (0 ≤ r → (dlen1 (l.drop i) : Int) + r ≤ x) := by
  intro d
  induction d with
  | zero =>
    intro k i x hi hk h0 h1
    obtain ⟨k, rfl⟩ : ∃ m, k = m + 1 := ⟨k - 1, by omega⟩
    rw [laws_szSetS.l0, if_neg (by omega), List.drop_of_length_le (by omega)]
    exact ⟨_, rfl, fun _ => by simp [dlen1]⟩
  | succ d ih =>
    intro k i x hi hk h0 h1
    obtain ⟨k, rfl⟩ : ∃ m, k = m + 1 := ⟨k - 1, by omega⟩
    have hi' : i < l.length := by omega
    have hel : rd_T53 l (i : Int) = l[i] := by simp [rd_T53, List.getD_eq_getElem?_getD, hi']
    have hsz := hs l[i] (List.getElem_mem _)
    obtain ⟨y, hy, hy1, hy2⟩ := szSet_eq l[i].f0 l[i].f1 l[i].f2 l[i].f3 hsz.1 hsz.2.1 hsz.2.2 x h0 h1 k (by omega)
    rw [laws_szSetS.l0, if_pos (by omega), if_pos (by omega), hel, hy, Option.bind_some, w64 (x := (i : Int) + 1) (by omega) (by omega)]
    by_cases hneg : y < 0
    · rw [if_pos hneg]
      exact ⟨_, rfl, fun h => absurd h (by omega)⟩
    · rw [if_neg hneg]
      obtain ⟨r, hr, hp⟩ := ih k (i + 1) y (by omega) (by omega) (by omega) (by omega)
      rw [show ((i + 1 : Nat) : Int) = (i : Int) + 1 by omega] at hr
      refine ⟨r, hr, fun h => ?_⟩
      rw [List.drop_eq_getElem_cons hi', dlen1_cons]
      have := hp h
      have := hy2 (by omega)
      omega
theorem szZone_eq (a : ByteArray) (l : List S53) (ha : a.size ≤ 9223372036854775807) (hl : l.length ≤ 9223372036854775807) (hs : ∀ r ∈ l, r.f0.size ≤ 9223372036854775807 ∧ r.f3.length ≤ 9223372036854775807 ∧ ∀ s ∈ r.f3, s.size ≤ 9223372036854775807) (k : Nat) (hk : 2097200 ≤ k) : ∃ r, laws_szZone.f k a l 1048576 = some r ∧ (0 ≤ r → l.length + dlen1 l ≤ 1048576) := by
  unfold laws_szZone.f
  rw [w64 (x := 1048576 - (a.size : Int)) (by omega) (by omega)]
  by_cases g1 : 1048576 - (a.size : Int) < 0
  · rw [if_pos g1]
    exact ⟨_, rfl, fun h => absurd h (by omega)⟩
  · rw [if_neg g1]
    unfold laws_szSetS.f
    rw [w64 (x := 1048576 - (a.size : Int) - (l.length : Int)) (by omega) (by omega)]
    by_cases h : 1048576 - (a.size : Int) - (l.length : Int) < 0
    · rw [if_pos h, Option.bind_some, if_pos (by omega)]
      exact ⟨_, rfl, fun h => absurd h (by omega)⟩
    · rw [if_neg h]
      obtain ⟨r, hr, hp⟩ := szSetS_l0 l (by omega) hs l.length k 0 (1048576 - (a.size : Int) - (l.length : Int)) (by omega) (by omega) (by omega) (by omega)
      rw [show ((0 : Nat) : Int) = 0 from rfl] at hr
      rw [hr, Option.bind_some]
      by_cases g2 : r < 0
      · rw [if_pos g2]
        exact ⟨_, rfl, fun h => absurd h (by omega)⟩
      · rw [if_neg g2]
        refine ⟨_, rfl, fun h => ?_⟩
        have := hp h
        rw [List.drop_zero] at this
        omega

end Go.Proofs.Ytdejbojoidobbaa.Pure
namespace Go.Proofs.Ytdejbojoidobbaa.Pure
open Go.RowKit Go.Proofs.Ytdejbojoidobbaa.F Go.Proofs.Ytdejbojoidobbaa.Base Go.Proofs.YtdejbojoidobbaaW.PrintWords Go.Proofs.YtdejbojoidobbaaW.PrintLast Go.Proofs.YtdejbojoidobbaaW.PrintMore
set_option linter.unusedVariables false
set_option linter.unusedSimpArgs false
theorem laws_toStringS_l0 (l : List ByteArray) (hl : l.length ≤ 1000000000) : ∀ (d k i : Nat), i + d = l.length → d < k → laws_toStringS.l0 k l (l.take i ++ List.replicate d (⟨#[]⟩ : ByteArray)) (i : Int) = some l := by
  intro d
  induction d with
  | zero =>
    intro k i hi hk
    obtain ⟨k, rfl⟩ : ∃ m, k = m + 1 := ⟨k - 1, by omega⟩
    rw [laws_toStringS.l0, if_neg (by omega)]
    simp only [List.replicate_zero, List.append_nil]
    rw [List.take_of_length_le (by omega)]
  | succ d ih =>
    intro k i hi hk
    obtain ⟨k, rfl⟩ : ∃ m, k = m + 1 := ⟨k - 1, by omega⟩
    have hi' : i < l.length := by omega
    have hel : rdOf ByteArray.empty l (i : Int) = l[i] := by simp [rdOf, List.getD_eq_getElem?_getD, hi']
    rw [laws_toStringS.l0, if_pos (by omega), if_pos (by omega), if_pos (by simp; omega), w64 (by omega) (by omega), hel]
    have e : (l.take i ++ List.replicate (d + 1) (⟨#[]⟩ : ByteArray)).set (i : Int).toNat l[i] = l.take (i + 1) ++ List.replicate d (⟨#[]⟩ : ByteArray) := by
      rw [Int.toNat_natCast, List.set_append_right _ _ (by simp; omega), List.length_take, Nat.min_eq_left (by omega), Nat.sub_self, List.replicate_succ, List.set_cons_zero, List.take_succ_eq_append_getElem hi', List.append_assoc]
      rfl
    rw [e]
    exact ih k (i + 1) (by omega) (by omega)
theorem laws_toStringS_eq (l : List ByteArray) (hl : l.length ≤ 1000000000) (k : Nat) (hk : l.length < k) : laws_toStringS.f k l = some l := by
  unfold laws_toStringS.f
  rw [if_pos (by omega), if_pos (by omega), Int.toNat_natCast]
  have := laws_toStringS_l0 l hl l.length k 0 (by omega) hk
  simpa using this

end Go.Proofs.Ytdejbojoidobbaa.Pure
namespace Go.Proofs.Ytdejbojoidobbaa.Pure
open Go.RowKit Go.Proofs.Ytdejbojoidobbaa.F Go.Proofs.Ytdejbojoidobbaa.Base Go.Proofs.YtdejbojoidobbaaW.PrintWords Go.Proofs.YtdejbojoidobbaaW.PrintLast Go.Proofs.YtdejbojoidobbaaW.PrintMore
set_option linter.unusedVariables false
set_option linter.unusedSimpArgs false
def setOf (r : S53) : S43 := ⟨r.f0, r.f1, r.f2, r.f3⟩
theorem laws_toSetS_l0 (l : List S53) (hl : l.length ≤ 1000000000) (hd : ∀ r ∈ l, r.f3.length ≤ 1048576) : ∀ (d k i : Nat), i + d = l.length → d + 1048577 < k → laws_toSetS.l0 k l ((l.map setOf).take i ++ List.replicate d z43) (i : Int) = some (l.map setOf) := by
  intro d
  induction d with
  | zero =>
    intro k i hi hk
    obtain ⟨k, rfl⟩ : ∃ m, k = m + 1 := ⟨k - 1, by omega⟩
    rw [laws_toSetS.l0, if_neg (by omega)]
    simp only [List.replicate_zero, List.append_nil]
    rw [List.take_of_length_le (by rw [List.length_map]; omega)]
  | succ d ih =>
    intro k i hi hk
    obtain ⟨k, rfl⟩ : ∃ m, k = m + 1 := ⟨k - 1, by omega⟩
    have hi' : i < l.length := by omega
    have hel : rd_T53 l (i : Int) = l[i] := by simp [rd_T53, List.getD_eq_getElem?_getD, hi']
    have hdi := hd l[i] (List.getElem_mem _)
    rw [laws_toSetS.l0, if_pos (by omega), if_pos (by omega), hel, laws_toSet.f, laws_toStringS_eq _ (by omega) k (by omega), Option.bind_some, Option.bind_some, if_pos (by simp; omega), w64 (by omega) (by omega)]
    have e : ((l.map setOf).take i ++ List.replicate (d + 1) z43).set (i : Int).toNat (⟨l[i].f0, l[i].f1, l[i].f2, l[i].f3⟩ : S43) = (l.map setOf).take (i + 1) ++ List.replicate d z43 := by
      rw [Int.toNat_natCast, List.set_append_right _ _ (by simp; omega), List.length_take, List.length_map, Nat.min_eq_left (by omega), Nat.sub_self, List.replicate_succ, List.set_cons_zero, List.take_succ_eq_append_getElem (by simpa using hi'), List.append_assoc]
      simp [setOf]
    rw [e]
    exact ih k (i + 1) (by omega) (by omega)
theorem laws_toSetS_eq (l : List S53) (hl : l.length ≤ 1000000000) (hd : ∀ r ∈ l, r.f3.length ≤ 1048576) (k : Nat) (hk : l.length + 1048577 < k) : laws_toSetS.f k l = some (l.map setOf) := by
  unfold laws_toSetS.f
  rw [if_pos (by omega), if_pos (by omega), Int.toNat_natCast]
  have := laws_toSetS_l0 l hl hd l.length k 0 (by omega) hk
  simpa using this
theorem laws_toZone_eq (a : ByteArray) (l : List S53) (hl : l.length ≤ 1000000000) (hd : ∀ r ∈ l, r.f3.length ≤ 1048576) (k : Nat) (hk : l.length + 1048577 < k) : laws_toZone.f k a l = some (a, l.map setOf) := by
  unfold laws_toZone.f
  rw [laws_toSetS_eq l hl hd k hk]; rfl

end Go.Proofs.Ytdejbojoidobbaa.Pure
namespace Go.Proofs.Ytdejbojoidobbaa.Pure
open Go.RowKit Go.Proofs.Ytdejbojoidobbaa.F Go.Proofs.Ytdejbojoidobbaa.Base Go.Proofs.YtdejbojoidobbaaW.PrintWords Go.Proofs.YtdejbojoidobbaaW.PrintLast Go.Proofs.YtdejbojoidobbaaW.PrintMore
set_option linter.unusedVariables false
set_option linter.unusedSimpArgs false
theorem spec_l06SetRecords_l0 (a : ByteArray) (b c : Int) (l : List ByteArray) (hl : l.length ≤ 1000000000) : ∀ (d k i : Nat) (p : List S48), i + d = l.length → d < k → p.length ≤ 1000000000 + i → spec_l06SetRecords.l0 k p (i : Int) a b c l = some (p ++ (l.drop i).map fun d => ⟨a, b, 1, c, d⟩) := by
  intro d
  induction d with
  | zero =>
    intro k i p hi hk hp
    obtain ⟨k, rfl⟩ : ∃ m, k = m + 1 := ⟨k - 1, by omega⟩
    rw [spec_l06SetRecords.l0, if_neg (by omega), List.drop_of_length_le (by omega)]
    simp
  | succ d ih =>
    intro k i p hi hk hp
    obtain ⟨k, rfl⟩ : ∃ m, k = m + 1 := ⟨k - 1, by omega⟩
    have hi' : i < l.length := by omega
    have hel : rdOf ByteArray.empty l (i : Int) = l[i] := by simp [rdOf, List.getD_eq_getElem?_getD, hi']
    rw [spec_l06SetRecords.l0, if_pos (by omega), if_pos (by omega), if_pos (by omega), w64 (by omega) (by omega), hel]
    have := ih k (i + 1) (p ++ [⟨a, b, 1, c, l[i]⟩]) (by omega) (by omega) (by rw [List.length_append]; simp; omega)
    rw [show ((i + 1 : Nat) : Int) = (i : Int) + 1 by omega] at this
    rw [this, List.drop_eq_getElem_cons hi', List.map_cons, List.append_assoc]
    rfl
theorem spec_l06SetRecords_eq (s : S43) (hl : s.f3.length ≤ 1000000000) (k : Nat) (hk : s.f3.length < k) : spec_l06SetRecords.f k s.f0 s.f1 s.f2 s.f3 = some (recs s) := by
  unfold spec_l06SetRecords.f
  have := spec_l06SetRecords_l0 s.f0 s.f1 s.f2 s.f3 hl s.f3.length k 0 [] (by omega) hk (by simp)
  rw [show ((0 : Nat) : Int) = 0 from rfl] at this
  rw [this, List.drop_zero]
  rfl
theorem spec_l06Join_l0 (l : List S48) (hl : l.length ≤ 1000000000) : ∀ (d k i : Nat) (p : List S48), i + d = l.length → d < k → p.length ≤ 1000000000 + i → spec_l06Join.l0 k p l (i : Int) = some (p ++ l.drop i) := by
  intro d
  induction d with
  | zero =>
    intro k i p hi hk hp
    obtain ⟨k, rfl⟩ : ∃ m, k = m + 1 := ⟨k - 1, by omega⟩
    rw [spec_l06Join.l0, if_neg (by omega), List.drop_of_length_le (by omega)]
    simp
  | succ d ih =>
    intro k i p hi hk hp
    obtain ⟨k, rfl⟩ : ∃ m, k = m + 1 := ⟨k - 1, by omega⟩
    have hi' : i < l.length := by omega
    have hel : rd_T48 l (i : Int) = l[i] := by simp [rd_T48, List.getD_eq_getElem?_getD, hi']
    rw [spec_l06Join.l0, if_pos (by omega), if_pos (by omega), if_pos (by omega), w64 (by omega) (by omega), hel]
    have := ih k (i + 1) (p ++ [l[i]]) (by omega) (by omega) (by rw [List.length_append]; simp; omega)
    rw [show ((i + 1 : Nat) : Int) = (i : Int) + 1 by omega] at this
    rw [show (⟨l[i].f0, l[i].f1, l[i].f2, l[i].f3, l[i].f4⟩ : S48) = l[i] from rfl, this, List.drop_eq_getElem_cons hi', List.append_assoc]
    rfl
theorem spec_l06Join_eq (p l : List S48) (hl : l.length ≤ 1000000000) (hp : p.length ≤ 1000000000) (k : Nat) (hk : l.length < k) : spec_l06Join.f k p l = some (p ++ l) := by
  unfold spec_l06Join.f
  have := spec_l06Join_l0 l hl l.length k 0 p (by omega) hk (by omega)
  simpa using this
theorem spec_l06Count_l0 (a : ByteArray) (l : List S43) (hl : l.length ≤ 1000000000) : ∀ (d k i : Nat) (x : Int), i + d = l.length → d < k → 0 ≤ x → x + dlen (l.drop i) ≤ 1000000000 → spec_l06Count.l0 k x (i : Int) a l = some (x + dlen (l.drop i)) := by
  intro d
  induction d with
  | zero =>
    intro k i x hi hk h0 hp
    obtain ⟨k, rfl⟩ : ∃ m, k = m + 1 := ⟨k - 1, by omega⟩
    rw [spec_l06Count.l0, if_neg (by omega), List.drop_of_length_le (by omega)]
    simp [dlen]
  | succ d ih =>
    intro k i x hi hk h0 hp
    obtain ⟨k, rfl⟩ : ∃ m, k = m + 1 := ⟨k - 1, by omega⟩
    have hi' : i < l.length := by omega
    have hel : rd_T43 l (i : Int) = l[i] := by simp [rd_T43, List.getD_eq_getElem?_getD, hi']
    rw [List.drop_eq_getElem_cons hi', dlen_cons] at hp ⊢
    rw [spec_l06Count.l0, if_pos (by omega), if_pos (by omega), hel, w64 (x := (i : Int) + 1) (by omega) (by omega), w64 (x := x + (l[i].f3.length : Int)) (by omega) (by omega)]
    have := ih k (i + 1) (x + (l[i].f3.length : Int)) (by omega) (by omega) (by omega) (by omega)
    rw [show ((i + 1 : Nat) : Int) = (i : Int) + 1 by omega] at this
    rw [this]
    congr 1
    omega
theorem spec_l06Count_eq (a : ByteArray) (l : List S43) (hl : l.length ≤ 1048576) (hd : dlen l ≤ 1048576) (k : Nat) (hk : l.length < k) : spec_l06Count.f k a l = some (dlen l : Int) := by
  unfold spec_l06Count.f
  have := spec_l06Count_l0 a l (by omega) l.length k 0 0 (by omega) hk (by omega) (by rw [List.drop_zero]; omega)
  rw [show ((0 : Nat) : Int) = 0 from rfl, List.drop_zero, Int.zero_add] at this
  exact this
theorem spec_ZoneRecords_l0 (a : ByteArray) (l : List S43) (hl : l.length ≤ 500) (hd : ∀ r ∈ l, r.f3.length ≤ 1048576) : ∀ (d k i : Nat) (p : List S48), i + d = l.length → d + 1048577 < k → p.length + dlen (l.drop i) ≤ 500 → spec_ZoneRecords.l0 k p (i : Int) a l = some (p ++ (l.drop i).flatMap recs) := by
  intro d
  induction d with
  | zero =>
    intro k i p hi hk hp
    obtain ⟨k, rfl⟩ : ∃ m, k = m + 1 := ⟨k - 1, by omega⟩
    rw [spec_ZoneRecords.l0, if_neg (by omega), List.drop_of_length_le (by omega)]
    simp
  | succ d ih =>
    intro k i p hi hk hp
    obtain ⟨k, rfl⟩ : ∃ m, k = m + 1 := ⟨k - 1, by omega⟩
    have hi' : i < l.length := by omega
    have hel : rd_T43 l (i : Int) = l[i] := by simp [rd_T43, List.getD_eq_getElem?_getD, hi']
    rw [List.drop_eq_getElem_cons hi', dlen_cons] at hp
    rw [List.drop_eq_getElem_cons hi']
    rw [spec_ZoneRecords.l0, if_pos (by omega), if_pos (by omega), hel, spec_l06SetRecords_eq l[i] (by omega) k (by omega), Option.bind_some, spec_l06Join_eq _ _ (by rw [recs_length]; omega) (by omega) k (by rw [recs_length]; omega), Option.bind_some, w64 (by omega) (by omega)]
    have := ih k (i + 1) (p ++ recs l[i]) (by omega) (by omega) (by rw [List.length_append, recs_length]; omega)
    rw [show ((i + 1 : Nat) : Int) = (i : Int) + 1 by omega] at this
    rw [this, List.flatMap_cons, List.append_assoc]
theorem spec_ZoneRecords_eq (a : ByteArray) (l : List S43) (hl : l.length ≤ 1048576) (hs : dlen l ≤ 1048576) (hd : ∀ r ∈ l, r.f3.length ≤ 1048576) (k : Nat) (hk : 1050000 ≤ k) : spec_ZoneRecords.f k a l = some (zrecs l) := by
  obtain ⟨k, rfl⟩ : ∃ m, k = m + 1 := ⟨k - 1, by omega⟩
  unfold spec_ZoneRecords.f zrecs
  rw [Option.bind_some]
  by_cases h : (l.length : Int) > 500
  · rw [if_pos h, if_pos (Or.inl (by omega)), spec_ZoneRecords.j0, if_pos rfl]
  · rw [if_neg h, spec_l06Count_eq a l hl hs _ (by omega), Option.bind_some]
    by_cases h2 : 500 < dlen l
    · rw [if_pos (Or.inr h2), spec_ZoneRecords.j0, if_pos (decide_eq_true (by omega))]
    · rw [if_neg (by omega), spec_ZoneRecords.j0, if_neg (by rw [decide_eq_false (by omega)]; decide)]
      have := spec_ZoneRecords_l0 a l (by omega) hd l.length k 0 [] (by omega) (by omega) (by rw [List.drop_zero, List.length_nil]; omega)
      rw [show ((0 : Nat) : Int) = 0 from rfl, List.drop_zero, List.nil_append] at this
      exact this

end Go.Proofs.Ytdejbojoidobbaa.Pure
namespace Go.Proofs.Ytdejbojoidobbaa.Pure
open Go.RowKit Go.Proofs.Ytdejbojoidobbaa.F Go.Proofs.Ytdejbojoidobbaa.Base Go.Proofs.YtdejbojoidobbaaW.PrintWords Go.Proofs.YtdejbojoidobbaaW.PrintLast Go.Proofs.YtdejbojoidobbaaW.PrintMore
set_option linter.unusedVariables false
set_option linter.unusedSimpArgs false
theorem dlen1_map (l : List S53) : dlen (l.map setOf) = dlen1 l := by
  unfold dlen dlen1
  rw [List.map_map]
  rfl
theorem dlen1_mem (l : List S53) : ∀ r ∈ l, r.f3.length ≤ dlen1 l := by
  induction l with
  | nil => intro r hr; cases hr
  | cons s l ih =>
    intro r hr
    rw [dlen1_cons]
    rcases List.mem_cons.1 hr with rfl | hr
    · omega
    · have := ih r hr; omega
theorem zrecs_length (l : List S43) : (zrecs l).length ≤ 500 := by
  unfold zrecs
  split
  · simp
  · rw [flat_length]; omega
theorem FnExactZoneRecords (a : ByteArray) (l : List S53) (ha : a.size ≤ maxLen) (hn : l.length ≤ maxLen) (hl : ∀ r ∈ l, r.f0.size ≤ maxLen ∧ r.f3.length ≤ maxLen ∧ ∀ s ∈ r.f3, s.size ≤ maxLen) : ∃ k, laws_FnExactZoneRecords.f k a l = some true := by
  unfold maxLen at ha hn hl
  refine ⟨3000001, ?_⟩
  unfold laws_FnExactZoneRecords.f
  obtain ⟨t, ht, ht2⟩ := szZone_eq a l ha hn hl 3000001 (by omega)
  rw [ht, Option.bind_some]
  by_cases hneg : t < 0
  · rw [if_pos hneg]
  · have hb := ht2 (by omega)
    have hd1 : ∀ r ∈ l, r.f3.length ≤ 1048576 := fun r hr => by have := dlen1_mem l r hr; omega
    have hto : ∀ K, 2200000 ≤ K → laws_toZone.f K a l = some (a, l.map setOf) := fun K hK => laws_toZone_eq a l (by omega) hd1 K (by omega)
    generalize hm : l.map setOf = m at hto
    have hml : m.length ≤ 1048576 := by rw [← hm, List.length_map]; omega
    have hmd : dlen m ≤ 1048576 := by rw [← hm, dlen1_map]; omega
    have hm1 : ∀ r ∈ m, r.f3.length ≤ 1048576 := by
      intro r hr
      rw [← hm] at hr
      obtain ⟨x, hx, rfl⟩ := List.mem_map.1 hr
      exact hd1 x hx
    have hz := zrecs_length m
    obtain ⟨r1, hr1, hr2⟩ := laws_markZone_eq a m hml hm1 hmd 3000001 (by omega)
    rw [if_neg hneg, hto _ (by omega), Option.bind_some, spec_ZoneRecords_eq a m hml hmd hm1 _ (by omega), Option.bind_some, Option.bind_some, impl_ZoneRecords_eq a m hm1 _ (by omega), Option.bind_some, laws_eqRRS_refl _ (by omega) _ (by omega), Option.bind_some, if_pos rfl, Option.bind_some, laws_eqZone_refl a m (by omega) hm1 _ (by omega), Option.bind_some, if_pos rfl, hr1, Option.bind_some, if_neg (by omega), Option.bind_some,
      show (!true) = false from rfl, laws_FnExactZoneRecords.j0, if_neg (by decide), laws_markRRS_eq _ 1 (by omega) _ (by omega) (by omega), Option.bind_some, laws_heldRRS_eq _ 1 (by omega) _ (by omega) (by omega), Option.bind_some, if_neg (by omega), if_pos rfl, hto _ (by omega), Option.bind_some, impl_ZoneRecords_eq a m hm1 _ (by omega), Option.bind_some, laws_eqRRS_refl _ (by omega) _ (by omega), Option.bind_some, if_pos rfl, Option.bind_some, if_neg (by omega), if_pos rfl]

end Go.Proofs.Ytdejbojoidobbaa.Pure
namespace Go.Proofs.Ytdejbojoidobbaa.fnExactZoneRecords
open Go.ChangeShapes Go.WideShapes Go.ChangeAt Go.RowKit Go.Proofs.YtdejbojoidobbaaW.PrintWords Go.Proofs.Ytdejbojoidobbaa.F
open Go.ChangeMaps (open_string shut_string)
set_option linter.unusedVariables false
theorem own : ownKnob Try.prog.godebug = none := by kernel_rfl
theorem laidOut : laidOutB Try.prog = true := by kernel_rfl
theorem strs_of_trod {H : Type} {enc : TypeId × Value → H} {W : World} {sp : Nat → Bool} {hd : Bool} {fuel : Nat} {cs : List Value} {x : DataW H × List MemPlace}
    (h : DataW.trod enc Try.prog W 0 sp hd fuel 41 cs = some x) :
    ∃ (A : Option Addr) (cap : Nat) (l : List ByteArray), cs = [.slice A l.length cap] ∧ l.length ≤ cap ∧ l.length ≤ maxLen ∧ Kd.C Kd.string W A l.length l ∧ ∀ s ∈ l, s.size ≤ maxLen := by
  rcases open_strings Try.underlying41 Try.underlying9 (by kernel_rfl) h with ⟨hcs, _⟩ | ⟨x, len, c, zs, hcs, _, hl, hm, hz, _, hc, hs⟩
  · exact ⟨none, 0, [], hcs, Nat.le_refl _, Nat.zero_le _, Kd.C_of_reads (d := ByteArray.empty) (enc := Value.string) (h1 := fun _ => rfl) ⟨rfl, by simp, (fun h => absurd h (by simp))⟩, fun s hs => by cases hs⟩
  · have hzl : len ≤ zs.length := by rw [hz]; split <;> omega
    have hlen : (zs.take len).length = len := by rw [List.length_take]; omega
    refine ⟨some x, c, zs.take len, by rw [hlen]; exact hcs, by omega, by omega, Kd.C_of_reads (d := ByteArray.empty) (enc := Value.string) (h1 := fun _ => rfl) ⟨rfl, by unfold maxLen at hm; omega, fun _ => ⟨x, rfl, fun j hj => ?_⟩⟩, fun s h => hs s (List.mem_of_mem_take h)⟩
    rw [hc j (by omega)]
    have hj2 : j < len := by omega
    simp [List.getD_eq_getElem?_getD, hj2]
set_option maxRecDepth 100000 in
theorem sets_of_trod {H : Type} {enc : TypeId × Value → H} {W : World} {sp : Nat → Bool} {hd : Bool} {fuel : Nat} {cs : List Value} {x : DataW H × List MemPlace}
    (h : DataW.trod enc Try.prog W 0 sp hd fuel 22 cs = some x) :
    ∃ (A : Option Addr) (cap : Nat) (l : List S53), cs = [.slice A l.length cap] ∧ l.length ≤ cap ∧ l.length ≤ maxLen ∧ Kd.C k53 W A l.length l ∧
      ∀ r ∈ l, r.f0.size ≤ maxLen ∧ r.f3.length ≤ maxLen ∧ ∀ s ∈ r.f3, s.size ≤ maxLen := by
  rcases Go.Deep.open_slice Try.underlying22 h with ⟨h0, _⟩ | ⟨a, len, cap, m, n, D, Pl, rfl, _, hl, hm, hmm, _, hx⟩
  · exact ⟨none, 0, [], h0, Nat.le_refl _, Nat.zero_le _, ⟨rfl, by simp, (fun h => absurd h (by simp))⟩, fun r hr => by cases hr⟩
  have hlm : len ≤ m := by rw [hmm]; split <;> omega
  have ce : Try.prog.cellsOf 53 = 4 := by kernel_rfl
  have each : ∀ i, i < len → ∃ r : S53, ∃ (A3 : Option Addr) (c3 : Nat), (∀ i' u, [Value.string r.f0, .int .i64 r.f1, .int .i64 r.f2, .slice A3 r.f3.length c3][i']? = some u → W.cell? (a.add (i * 4 + i')) = some u) ∧ r.f3.length ≤ c3 ∧ Kd.C Kd.string W A3 r.f3.length r.f3 ∧
      r.f0.size ≤ maxLen ∧ r.f3.length ≤ maxLen ∧ ∀ s ∈ r.f3, s.size ≤ maxLen := by
    intro i hi
    obtain ⟨cs', h1, h2⟩ := hx i (by omega)
    rw [ce] at h1
    obtain ⟨_, hlen, hcell⟩ := World.cells?_some h1
    obtain ⟨xs, k, hk, hxy, _, hxl, hf⟩ := DataW.trod_struct Try.underlying53 h2
    match xs, hxl, cs', hlen with
    | [y0, y1, y2, y3], _, [v0, v1, v2, v3], _ =>
      have c9 : Try.prog.cellsOf 9 = 1 := by kernel_rfl
      have c2 : Try.prog.cellsOf 2 = 1 := by kernel_rfl
      have c41 : Try.prog.cellsOf 41 = 1 := by kernel_rfl
      have g0 := hf 0 _ rfl
      have g1 := hf 1 _ rfl
      have g2 := hf 2 _ rfl
      have g3 := hf 3 _ rfl
      simp [c9, c2, c41] at g0 g1 g2 g3
      obtain ⟨s0, e0, _, b0⟩ := DataW.trod_string Try.underlying9 g0
      obtain ⟨n1, e1, _, b1⟩ := DataW.trod_int Try.underlying2 g1
      obtain ⟨n2, e2, _, b2⟩ := DataW.trod_int Try.underlying2 g2
      obtain ⟨A3, c3, l3, e3, b3, b4, b5, b6⟩ := strs_of_trod g3
      simp only [List.cons.injEq, and_true] at e0 e1 e2 e3
      subst e0 e1 e2 e3
      refine ⟨⟨s0, n1, n2, l3⟩, A3, c3, fun i' u hu => ?_, b3, b5, b0, b4, b6⟩
      have hlt : i' < 4 := by
        have := (List.getElem?_eq_some_iff.1 hu).1
        simpa using this
      have := hcell i' hlt
      rw [← Go.Deep.add_add, this]
      exact hu
  haveI : Inhabited S53 := ⟨z53⟩
  obtain ⟨q, hq⟩ := Go.Deep.choose_lt each
  have hll : ((List.range len).map q).length = len := by simp
  refine ⟨some a, cap, (List.range len).map q, by rw [hll], by omega, by omega, ⟨rfl, by unfold maxLen at hm; omega, fun _ => ⟨a, rfl, fun j p hj => ?_⟩⟩, fun r hr => ?_⟩
  · have hj2 : j < len ∧ q j = p := by
      rw [List.getElem?_map] at hj
      obtain ⟨y, hy, rfl⟩ := Option.map_eq_some_iff.1 hj
      obtain ⟨hl2, rfl⟩ := List.getElem?_eq_some_iff.1 hy
      exact ⟨by simpa using hl2, by simp⟩
    obtain ⟨hj3, rfl⟩ := hj2
    obtain ⟨A3, c3, g1, g2, g3, _⟩ := hq j hj3
    exact ⟨_, rfl, k53_mk _ _ g2 g3, g1⟩
  · obtain ⟨j, hj, rfl⟩ := List.mem_map.1 hr
    obtain ⟨A3, c3, g1, g2, g3, g4⟩ := hq j (List.mem_range.1 hj)
    exact g4

theorem zone_of_trod {H : Type} {enc : TypeId × Value → H} {W : World} {sp : Nat → Bool} {hd : Bool} {fuel : Nat} {cs : List Value} {x : DataW H × List MemPlace}
    (h : DataW.trod enc Try.prog W 0 sp hd fuel 24 cs = some x) :
    ∃ (a : ByteArray) (A : Option Addr) (c : Nat) (l : List S53), cs = [.string a, .slice A l.length c] ∧ a.size ≤ maxLen ∧ l.length ≤ c ∧ l.length ≤ maxLen ∧ Kd.C k53 W A l.length l ∧ ∀ r ∈ l, r.f0.size ≤ maxLen ∧ r.f3.length ≤ maxLen ∧ ∀ s ∈ r.f3, s.size ≤ maxLen := by
  obtain ⟨y0, y1, n, _, hlen, t0, t1⟩ := trod_struct2 Try.underlying24 h
  have c24 : Try.prog.cellsOf 24 = 2 := by kernel_rfl
  have c9 : Try.prog.cellsOf 9 = 1 := by kernel_rfl
  have cS : Try.prog.cellsOf 22 = 1 := by kernel_rfl
  rw [c24] at hlen
  match cs, hlen with
  | [v0, v1], _ =>
    simp [c9, cS] at t0 t1
    obtain ⟨s0, e0, _, b0⟩ := DataW.trod_string Try.underlying9 t0
    obtain ⟨A, c, l, e1, g1, g2, g3, g4⟩ := sets_of_trod t1
    simp only [List.cons.injEq, and_true] at e0 e1
    subst e0 e1
    exact ⟨s0, A, c, l, rfl, b0, g1, g2, g3, g4⟩
set_option maxHeartbeats 4000000 in
set_option maxRecDepth 100000 in
theorem lifted (os : Os) (started : os.Started) (H : Type) (enc : TypeId × Value → H) :
    ReturnsInHanded {} Try.checked os 3 .any (Rows.fnExactZoneRecordsSpec.pre6 enc Try.prog Try.f3 Rows.fnExactZoneRecordsRow.domain false) (Rows.fnExactZoneRecordsSpec.post enc Try.prog Try.f3 false true false false) := by
  refine returnsInHanded_of_change_sized (C := Try.checked) own started (by kernel_rfl) Try.func3
    (ChangeSpec.witness6 (enc := enc) (C := Try.checked) false ⟨#[], #[.agg #[.string ByteArray.empty, .slice none 0 0]], []⟩ 8 (by kernel_rfl) (by kernel_rfl) (by kernel_rfl) (by kernel_rfl)) ?_
  intro W base args ds gs before hval0 hW hcnd hsz0 _
  have hval : ∀ (j : Nat) t v, Try.f3.params[j]? = some t → args[j]? = some v → Value.okWide Try.prog W .any base t v := hval0
  have hW' := hW
  obtain ⟨p, q, hA0, hV, rfl, hfz, hnd⟩ := hW
  have hA : DataW.TrodAll enc Try.prog W 0 (fun _ => true) true Try.f3.params.toList args.toList ds p := hA0
  rw [Try.params3] at hA hval
  obtain ⟨v0, vs0, d0, ds0, p0, q0, hargs, rfl, rfl, h0, r0⟩ := trodAll_cons hA
  obtain ⟨rfl, rfl, rfl⟩ := trodAll_nil r0
  obtain rfl : args = #[v0] := by cases args; simp_all
  obtain ⟨rfl, rfl⟩ := trodVars_none hV
  obtain ⟨cs, rfl, hcs⟩ := okWide_struct Try.underlying24 (hval 0 24 v0 rfl rfl)
  have k0 := h0
  have lt0 : ∀ x ∈ p0, x.block < W.heap.size := by obtain ⟨m, hm⟩ := k0; exact DataW.trod_lt m _ _ _ hm
  obtain ⟨a, A, c, l, e, ha, g1, g2, g3, g4⟩ : ∃ (a : ByteArray) (A : Option Addr) (c : Nat) (l : List S53), cs.toList = [.string a, .slice A l.length c] ∧ a.size ≤ maxLen ∧ l.length ≤ c ∧ l.length ≤ maxLen ∧ Kd.C k53 W A l.length l ∧ ∀ r ∈ l, r.f0.size ≤ maxLen ∧ r.f3.length ≤ maxLen ∧ ∀ s ∈ r.f3, s.size ≤ maxLen := by
    obtain ⟨fuel, hf⟩ := h0
    exact zone_of_trod hf
  obtain rfl : cs = #[.string a, .slice A l.length c] := Array.toList_inj.1 e
  clear hA0 hval0 hsz0
  obtain ⟨k, hk⟩ := Pure.FnExactZoneRecords a l ha g2 g4
  refine (F.laws_FnExactZoneRecords.calls k a A c l true W g3 g1 hk).mono fun e W' ⟨he, bel⟩ => ?_
  subst he
  exact ⟨_, rfl, _, _, _, [], _, [], hW', trodAll_mk1 (shut_bool Try.underlying4 _), (trodAll_cons_mk (Below.trod laidOut (by kernel_rfl) (of_decide_eq_true (by kernel_rfl)) k0 bel lt0) trodAll_mk0), rfl, bel.frame _, fun h => by cases h⟩
theorem over : Rows.fnExactZoneRecordsRow.holds Try.pinned (OpenSpec.ofChange Rows.fnExactZoneRecordsSpec) :=
  OpenClaim.holds_of_wide 3 Try.f3 rfl rfl rfl rfl rfl rfl rfl ⟨rfl, rfl, rfl, rfl, rfl⟩ rfl rfl rfl rfl rfl (by kernel_rfl) Try.func3 (by kernel_rfl)
    (of_decide_eq_true (by kernel_rfl)) (by unfold Func.isWrapper; first | (rw [if_pos (by decide +kernel)]; kernel_rfl) | (rw [if_neg (by decide +kernel)]; exact ⟨rfl, rfl⟩))
    (fun os started H enc _ => lifted os started H enc)
theorem proved : Rows.FnExactZoneRecordsSaid := over
end Go.Proofs.Ytdejbojoidobbaa.fnExactZoneRecords
namespace Go.Proofs.Ytdejbojoidobbaa
theorem fnExactZoneRecords_holds : Rows.FnExactZoneRecordsSaid := fnExactZoneRecords.proved
end Go.Proofs.Ytdejbojoidobbaa
