/- Part 6 of 6 of the proof of FnExactCheckChanges: what each Go function on its way computes, that the Go code does just this, and what the law says of it. No condition beyond the statement's own. -/
import Derived.Lib.Bytealg
import Derived.Laws.BitsLemmas
import Derived.Test.YtpnbhblmfglkcaaDoorRows
import Derived.Test.YtpnbhblmfglkcaaDoorTie
import Derived.Test.YtpnbhblmfglkcaaDoorCards
import Derived.WalkKit
import Derived.ProofKit
import Derived.OpenShut
import Derived.OpenVars
import Derived.ShutString
import Derived.ChangeOld
import Derived.Below
import Derived.SizedLaws
import Derived.Deep.Slices
import Derived.ChangeArms
import Derived.Test.YtpnbhblmfglkcaaDoorMFnExactCheckChanges5
namespace Go.Proofs.YtpnbhblmfglkcaaDoor.Base
open Go Go.RowKit Go.Proofs.YtpnbhblmfglkcaaDoorW.PrintWords Go.Proofs.YtpnbhblmfglkcaaDoorW.PrintMore

def low (c : UInt8) : UInt8 := if 65 ≤ c.toNat ∧ c.toNat ≤ 90 then UInt8.ofNat (c.toNat + 32) else c
theorem low_toNat (c : UInt8) : (low c).toNat = if 65 ≤ c.toNat ∧ c.toNat ≤ 90 then c.toNat + 32 else c.toNat := by
  unfold low
  split
  · rw [UInt8.toNat_ofNat']
    omega
  · rfl
theorem low_small {c : UInt8} (h : c.toNat ≤ 64) : low c = c := by
  unfold low
  rw [if_neg (by omega)]
theorem low_low (c : UInt8) : low (low c) = low c := by
  apply UInt8.toNat_inj.1
  rw [low_toNat (low c), low_toNat c]
  by_cases h : 65 ≤ c.toNat ∧ c.toNat ≤ 90
  · rw [if_pos h, if_neg (by omega)]
  · rw [if_neg h, if_neg h]
def foldB (s : ByteArray) : ByteArray := B ((L s).map low)
theorem L_foldB (s : ByteArray) : L (foldB s) = (L s).map low := L_B _
theorem foldB_size (s : ByteArray) : (foldB s).size = s.size := by rw [size_L, size_L, L_foldB, List.length_map]
theorem foldB_foldB (s : ByteArray) : foldB (foldB s) = foldB s := by
  apply L_inj
  rw [L_foldB, L_foldB, List.map_map]
  exact List.map_congr_left fun c _ => low_low c
def joinL (ls : List ByteArray) : List UInt8 := ls.flatMap fun s => UInt8.ofNat s.size :: L s
def join (ls : List ByteArray) : ByteArray := B (joinL ls ++ [0])
theorem joinL_cons (s : ByteArray) (t : List ByteArray) : joinL (s :: t) = UInt8.ofNat s.size :: (L s ++ joinL t) := by simp [joinL]
theorem joinL_append (a b : List ByteArray) : joinL (a ++ b) = joinL a ++ joinL b := by simp [joinL]
theorem L_join (ls : List ByteArray) : L (join ls) = joinL ls ++ [0] := L_B _
theorem size_join (ls : List ByteArray) : (join ls).size = (joinL ls).length + 1 := by rw [size_L, L_join]; simp
/-- A name's bytes are its labels joined, and each label has from 1 to 63 bytes. -/
theorem labs_join : ∀ (n : Nat) (l : List UInt8), l.length ≤ n → ∀ ls, labs l = some ls → l = joinL ls ++ [0] ∧ ∀ s ∈ ls, 1 ≤ s.size ∧ s.size ≤ 63 := by
  intro n
  induction n with
  | zero =>
    intro l hl ls h
    obtain rfl : l = [] := List.length_eq_zero_iff.1 (by omega)
    simp [labs] at h
  | succ n ih =>
    intro l hl ls h
    cases l with
    | nil => simp [labs] at h
    | cons c r =>
      simp only [List.length_cons] at hl
      rw [labs] at h
      by_cases h0 : c.toNat = 0
      · rw [if_pos h0] at h
        by_cases hr : r = []
        · rw [if_pos hr] at h
          obtain rfl := Option.some.inj h
          subst hr
          have : c = 0 := UInt8.toNat_inj.1 h0
          subst this
          exact ⟨by simp [joinL], by simp⟩
        · rw [if_neg hr] at h; cases h
      · rw [if_neg h0] at h
        by_cases h63 : 63 < c.toNat
        · rw [if_pos h63] at h; cases h
        · rw [if_neg h63] at h
          by_cases hl2 : r.length < c.toNat
          · rw [if_pos hl2] at h; cases h
          · rw [if_neg hl2] at h
            obtain ⟨t, ht, rfl⟩ := Option.map_eq_some_iff.1 h
            obtain ⟨h1, h2⟩ := ih (r.drop c.toNat) (by simp; omega) t ht
            have hs : (B (r.take c.toNat)).size = c.toNat := by rw [size_L, L_B, List.length_take]; omega
            refine ⟨?_, ?_⟩
            · rw [joinL_cons, hs, L_B, List.cons_append, List.append_assoc, ← h1, List.take_append_drop]
              simp
            · intro s hm
              rcases List.mem_cons.1 hm with rfl | hm
              · rw [hs]; omega
              · exact h2 s hm
theorem names_join {l : List UInt8} {ls : List ByteArray} (h : names l = some ls) : l = joinL ls ++ [0] ∧ (∀ s ∈ ls, 1 ≤ s.size ∧ s.size ≤ 63) ∧ l.length ≤ 255 := by
  unfold names at h
  split at h
  · cases h
  · obtain ⟨h1, h2⟩ := labs_join _ l (Nat.le_refl _) ls h
    exact ⟨h1, h2, by omega⟩
/-- Labels of good length, joined, are cut into just these labels. -/
theorem labs_of_join : ∀ (ls : List ByteArray), (∀ s ∈ ls, 1 ≤ s.size ∧ s.size ≤ 63) → labs (joinL ls ++ [0]) = some ls := by
  intro ls
  induction ls with
  | nil => intro _; simp [joinL, labs]
  | cons s t ih =>
    intro h
    have hs := h s (by simp)
    have ht := ih fun x hx => h x (by simp [hx])
    have hl := size_L s
    have hn : (UInt8.ofNat s.size).toNat = s.size := by rw [UInt8.toNat_ofNat']; omega
    rw [joinL_cons, List.cons_append, labs, hn, if_neg (by omega), if_neg (by omega), if_neg (by simp; omega)]
    have e1 : (L s ++ joinL t ++ [0]).drop s.size = joinL t ++ [0] := by rw [List.append_assoc, hl, List.drop_left]
    have e2 : (L s ++ joinL t ++ [0]).take s.size = L s := by rw [List.append_assoc, hl, List.take_left]
    rw [e1, e2, ht, B_L]
    rfl
theorem names_of_join {ls : List ByteArray} (h : ∀ s ∈ ls, 1 ≤ s.size ∧ s.size ≤ 63) (hn : (joinL ls).length + 1 ≤ 255) : names (joinL ls ++ [0]) = some ls := by
  unfold names
  rw [if_neg (by simp; omega), labs_of_join ls h]
theorem joinL_fold : ∀ (ls : List ByteArray), (∀ s ∈ ls, s.size ≤ 63) → (joinL ls).map low = joinL (ls.map foldB) := by
  intro ls
  induction ls with
  | nil => intro _; simp [joinL]
  | cons s t ih =>
    intro h
    have hs := h s (by simp)
    rw [joinL_cons, List.map_cons, List.map_append, ih fun x hx => h x (by simp [hx]), List.map_cons, joinL_cons, foldB_size, L_foldB, low_small (by rw [UInt8.toNat_ofNat']; omega)]
theorem fold_join {ls : List ByteArray} (h : ∀ s ∈ ls, s.size ≤ 63) : foldB (join ls) = join (ls.map foldB) := by
  apply L_inj
  rw [L_foldB, L_join, L_join, List.map_append, joinL_fold ls h]
  simp [low_small]
theorem join_names {a : ByteArray} {ls : List ByteArray} (h : names (L a) = some ls) : join ls = a := L_inj (by rw [L_join, ← (names_join h).1])
theorem mem_size {ls : List ByteArray} (h : ∀ s ∈ ls, 1 ≤ s.size ∧ s.size ≤ 63) : ∀ s ∈ ls, s.size ≤ 63 := fun s hs => (h s hs).2
theorem joinL_len_fold (ls : List ByteArray) : (joinL (ls.map foldB)).length = (joinL ls).length := by
  induction ls with
  | nil => rfl
  | cons s t ih => rw [List.map_cons, joinL_cons, joinL_cons]; simp [ih, L_foldB]
theorem joinL_len_drop (ls : List ByteArray) (n : Nat) : (joinL (ls.drop n)).length ≤ (joinL ls).length := by
  have h : joinL ls = joinL (ls.take n) ++ joinL (ls.drop n) := by rw [← joinL_append, List.take_append_drop]
  rw [h, List.length_append]; omega
theorem joinL_len_ge (ls : List ByteArray) : ls.length ≤ (joinL ls).length := by
  induction ls with
  | nil => simp
  | cons s t ih => rw [joinL_cons]; simp; omega
theorem mem_len_le {ls : List ByteArray} {s : ByteArray} (h : s ∈ ls) : s.size ≤ (joinL ls).length := by
  induction ls with
  | nil => cases h
  | cons x t ih =>
    rw [joinL_cons, size_L]
    rcases List.mem_cons.1 h with rfl | h
    · simp; omega
    · have := ih h
      rw [size_L] at this
      simp; omega
def sameN (a b : ByteArray) : Bool := (names (L a)).isSome && ((names (L b)).isSome && (L (foldB a) == L (foldB b)))
theorem foldB_ne {a : ByteArray} {ls : List ByteArray} (h : names (L a) = some ls) : L (foldB a) ≠ [] := by
  rw [L_foldB, (names_join h).1]
  simp
/-- A name without its first labels. -/
def ancN (o : Option (List ByteArray)) (n : Int) : ByteArray × Int := match o with
  | none => (⟨#[]⟩, 32)
  | some ls => if n < 0 ∨ n > (ls.length : Int) then (⟨#[]⟩, 32) else (join (ls.drop n.toNat), 0)
/-- The order of two names by their labels from the right, given turned round. -/
def cmpR : List ByteArray → List ByteArray → Int
  | [], [] => 0
  | [], _ :: _ => -1
  | _ :: _, [] => 1
  | a :: x, b :: y => if Lib.compareBytes (L (foldB a)) (L (foldB b)) = 0 then cmpR x y else Lib.compareBytes (L (foldB a)) (L (foldB b))
/-- The order of two names. -/
def cmpN (a b : ByteArray) : Int := match names (L a), names (L b) with
  | some x, some y => cmpR x.reverse y.reverse
  | _, _ => 0
theorem rev_drop (l : List ByteArray) (i : Nat) (h : i < l.length) : l.reverse.drop i = l.getD (l.length - (i + 1)) ByteArray.empty :: l.reverse.drop (i + 1) := by
  rw [List.drop_eq_getElem_cons (by simpa using h)]
  congr 1
  rw [List.getElem_reverse, List.getD_eq_getElem?_getD, List.getElem?_eq_getElem (by omega)]
  simp only [Option.getD_some]
  congr 1
  omega
/-- The name that labels make. -/
def mkN (ls : List ByteArray) : ByteArray × Int := if 127 < ls.length then (⟨#[]⟩, 3) else if ∃ s ∈ ls, s.size < 1 ∨ 63 < s.size then (⟨#[]⟩, 2) else if 255 < (joinL ls).length + 1 then (⟨#[]⟩, 3) else (join ls, 0)
def GoodL (ls : List ByteArray) : Prop := ∀ s ∈ ls, 1 ≤ s.size ∧ s.size ≤ 63
theorem join_inj {x y : List ByteArray} (hx : GoodL x) (hy : GoodL y) (h : join x = join y) : x = y := by
  have h2 : labs (L (join x)) = labs (L (join y)) := by rw [h]
  rw [L_join, L_join, labs_of_join x hx, labs_of_join y hy] at h2
  exact Option.some.inj h2
theorem GoodL.fold {x : List ByteArray} (hx : GoodL x) : GoodL (x.map foldB) := by
  intro s hs
  obtain ⟨t, ht, rfl⟩ := List.mem_map.1 hs
  rw [foldB_size]
  exact hx t ht
theorem GoodL.drop {x : List ByteArray} (hx : GoodL x) (n : Nat) : GoodL (x.drop n) := fun s hs => hx s (List.mem_of_mem_drop hs)
theorem GoodL.take {x : List ByteArray} (hx : GoodL x) (n : Nat) : GoodL (x.take n) := fun s hs => hx s (List.mem_of_mem_take hs)
theorem GoodL.append {x y : List ByteArray} (hx : GoodL x) (hy : GoodL y) : GoodL (x ++ y) := fun s hs => (List.mem_append.1 hs).elim (hx s) (hy s)
theorem foldB_join_iff {x y : List ByteArray} (hx : GoodL x) (hy : GoodL y) : foldB (join x) = foldB (join y) ↔ x.map foldB = y.map foldB := by
  rw [fold_join (mem_size hx), fold_join (mem_size hy)]
  exact ⟨join_inj hx.fold hy.fold, fun h => by rw [h]⟩
theorem names_good {a : ByteArray} {ls : List ByteArray} (h : names (L a) = some ls) : GoodL ls ∧ join ls = a ∧ (joinL ls).length + 1 ≤ 255 := by
  obtain ⟨h1, h2, h3⟩ := names_join h
  exact ⟨h2, join_names h, by rw [h1] at h3; simpa using h3⟩
theorem joinL_good_ge : ∀ {ls : List ByteArray}, GoodL ls → 2 * ls.length ≤ (joinL ls).length := by
  intro ls
  induction ls with
  | nil => intro _; simp
  | cons s t ih =>
    intro h
    have h1 := h s (by simp)
    have h2 := ih fun x hx => h x (by simp [hx])
    have := size_L s
    rw [joinL_cons]
    simp only [List.length_cons, List.length_append]
    omega
/-- The name of good labels. -/
def mkG (ls : List ByteArray) : ByteArray × Int := if 255 < (joinL ls).length + 1 then (⟨#[]⟩, 3) else (join ls, 0)
theorem mkN_good {ls : List ByteArray} (h : GoodL ls) : mkN ls = mkG ls := by
  have hl := joinL_good_ge h
  have hne : ¬ ∃ s ∈ ls, s.size < 1 ∨ 63 < s.size := by
    rintro ⟨s, hs, hb⟩
    have := h s hs
    omega
  unfold mkN mkG
  by_cases h1 : 127 < ls.length
  · rw [if_pos h1, if_pos (by omega)]
  · rw [if_neg h1, if_neg hne]
/-- Is a name another one or below it: by their labels. -/
def underL (x y : List ByteArray) : Bool := decide (y.length ≤ x.length ∧ (x.drop (x.length - y.length)).map foldB = y.map foldB)
def underN (a b : ByteArray) : Bool := match names (L a), names (L b) with
  | some x, some y => underL x y
  | _, _ => false
theorem sameN_iff {a b : ByteArray} {x y : List ByteArray} (hx : names (L a) = some x) (hy : names (L b) = some y) : sameN a b = decide (x.map foldB = y.map foldB) := by
  obtain ⟨gx, jx, _⟩ := names_good hx
  obtain ⟨gy, jy, _⟩ := names_good hy
  unfold sameN
  rw [hx, hy]
  simp only [Option.isSome_some, Bool.true_and]
  by_cases h : x.map foldB = y.map foldB
  · rw [decide_eq_true h, beq_iff_eq, ← jx, ← jy, (foldB_join_iff gx gy).2 h]
  · rw [decide_eq_false h, beq_eq_false_iff_ne]
    intro e
    rw [← jx, ← jy] at e
    exact h ((foldB_join_iff gx gy).1 (L_inj e))
/-- A name put below another one. -/
def tailN (a b c : ByteArray) : ByteArray × Int := match names (L a), names (L b), names (L c) with
  | some x, some y, some z => if underL x y = true ∧ x.length ≠ y.length then mkG (x.take (x.length - y.length) ++ z) else (⟨#[]⟩, 22)
  | _, _, _ => (⟨#[]⟩, 32)
end Go.Proofs.YtpnbhblmfglkcaaDoor.Base
namespace Go.Proofs.YtpnbhblmfglkcaaDoor.Base
open Go.RowKit Go.Proofs.YtpnbhblmfglkcaaDoorW.PrintWords Go.Proofs.YtpnbhblmfglkcaaDoorW.PrintLast
/-- How many bytes the name has with which the bytes begin, found from a position on; 0: none. -/
def nmP (x : List UInt8) : Nat → Nat → Nat
  | 0, _ => 0
  | d + 1, p => match x.drop p with
    | [] => 0
    | c :: _ => if c.toNat = 0 then (if 255 < p + 1 then 0 else p + 1) else if 63 < c.toNat then 0 else nmP x d (p + 1 + c.toNat)
theorem drop_at {x : List UInt8} {p : Nat} (h : p < x.length) : x.drop p = x[p] :: x.drop (p + 1) := List.drop_eq_getElem_cons h
theorem bt_get {x : ByteArray} {p : Nat} (h : p < (L x).length) : bt x (p : Int) = (((L x)[p]).toNat : Int) := by
  rw [bt_L, Int.toNat_natCast, List.getD_eq_getElem?_getD, List.getElem?_eq_getElem h]
  rfl
theorem nmP_big (x : List UInt8) : ∀ (d p : Nat), 255 ≤ p → nmP x d p = 0 := by
  intro d
  induction d with
  | zero => intro p _; rfl
  | succ d ih =>
    intro p hp
    rw [nmP]
    split
    · rfl
    · split
      · rw [if_pos (by omega)]
      · split
        · rfl
        · exact ih _ (by omega)
theorem nmP_le (x : List UInt8) : ∀ (d p : Nat), nmP x d p ≤ x.length ∧ nmP x d p ≤ 255 := by
  intro d
  induction d with
  | zero => intro p; exact ⟨Nat.zero_le _, Nat.zero_le _⟩
  | succ d ih =>
    intro p
    rw [nmP]
    split
    · exact ⟨Nat.zero_le _, Nat.zero_le _⟩
    · rename_i c r h
      split
      · split
        · exact ⟨Nat.zero_le _, Nat.zero_le _⟩
        · refine ⟨?_, by omega⟩
          have : (x.drop p).length ≥ 1 := by rw [h]; simp
          rw [List.length_drop] at this
          omega
      · split
        · exact ⟨Nat.zero_le _, Nat.zero_le _⟩
        · exact ih _
/-- The name's length at the beginning. -/
def nm (x : List UInt8) : Nat := nmP x (x.length + 1) 0
/-- The short text's length at the beginning; 0: none. -/
def tx : List UInt8 → Nat
  | [] => 0
  | c :: r => if r.length < c.toNat then 0 else c.toNat + 1
theorem nmP_gt (x : List UInt8) : ∀ (d p : Nat), nmP x d p ≠ 0 → p < nmP x d p := by
  intro d
  induction d with
  | zero => intro p h; exact absurd rfl h
  | succ d ih =>
    intro p h
    cases hx : x.drop p with
    | nil => rw [nmP, hx] at h; exact absurd rfl h
    | cons c r =>
      rw [nmP, hx] at h ⊢
      dsimp only at h ⊢
      by_cases h0 : c.toNat = 0
      · rw [if_pos h0] at h ⊢
        by_cases h1 : 255 < p + 1
        · rw [if_pos h1] at h; exact absurd rfl h
        · rw [if_neg h1]
          omega
      · rw [if_neg h0] at h ⊢
        by_cases h1 : 63 < c.toNat
        · rw [if_pos h1] at h; exact absurd rfl h
        · rw [if_neg h1] at h ⊢
          have := ih _ h
          omega
theorem nmP_labs (x : List UInt8) : ∀ (d p : Nat), nmP x d p ≠ 0 → ∃ ls, labs ((x.drop p).take (nmP x d p - p)) = some ls := by
  intro d
  induction d with
  | zero => intro p h; exact absurd rfl h
  | succ d ih =>
    intro p h
    have hle := (nmP_le x (d + 1) p).1
    cases hx : x.drop p with
    | nil => rw [nmP, hx] at h; exact absurd rfl h
    | cons c r =>
      rw [nmP, hx] at h hle ⊢
      dsimp only at h hle ⊢
      by_cases h0 : c.toNat = 0
      · rw [if_pos h0] at h hle ⊢
        by_cases h1 : 255 < p + 1
        · rw [if_pos h1] at h; exact absurd rfl h
        · rw [if_neg h1, show p + 1 - p = 1 from by omega]
          exact ⟨[], by rw [List.take_succ_cons, List.take_zero, labs, if_pos h0, if_pos rfl]⟩
      · rw [if_neg h0] at h hle ⊢
        by_cases h1 : 63 < c.toNat
        · rw [if_pos h1] at h; exact absurd rfl h
        · rw [if_neg h1] at h hle ⊢
          have hgt := nmP_gt x d _ h
          obtain ⟨ls, hls⟩ := ih _ h
          have hr : x.drop (p + 1) = r := by rw [← List.drop_drop, hx]; rfl
          have hrl : r.length = x.length - (p + 1) := by rw [← hr, List.length_drop]
          generalize nmP x d (p + 1 + c.toNat) = n at *
          rw [show n - p = (n - p - 1) + 1 from by omega, List.take_succ_cons, labs, if_neg h0, if_neg h1, if_neg (by rw [List.length_take]; omega)]
          have e : (r.take (n - p - 1)).drop c.toNat = (x.drop (p + 1 + c.toNat)).take (n - (p + 1 + c.toNat)) := by
            rw [List.drop_take, ← List.drop_drop, hr]
            congr 1
            omega
          rw [e, hls]
          exact ⟨_, rfl⟩
theorem nm_names (x : List UInt8) (h : nm x ≠ 0) : (names (x.take (nm x))).isSome = true := by
  have h1 := nmP_le x (x.length + 1) 0
  obtain ⟨ls, hl⟩ := nmP_labs x (x.length + 1) 0 h
  unfold nm at h ⊢
  rw [List.drop_zero, Nat.sub_zero] at hl
  unfold names
  rw [List.length_take, Nat.min_eq_left h1.1, if_neg (by omega), hl]
  rfl
theorem toList_nil (x : ByteArray) : (x.toList = []) ↔ L x = [] := by rw [toL]
end Go.Proofs.YtpnbhblmfglkcaaDoor.Base
namespace Go.Proofs.YtpnbhblmfglkcaaDoor.Base
open Go Go.RowKit Go.Proofs.YtpnbhblmfglkcaaDoorW.PrintWords Go.Proofs.YtpnbhblmfglkcaaDoorW.PrintMore

theorem wrap_u64 (n : Int) : IntKind.u64.wrap n = n % 18446744073709551616 := by simp [IntKind.wrap, IntKind.bits, IntKind.signed]
theorem u8_and1 (x : Int) (h0 : 0 ≤ x) (h1 : x < 256) : bits .and .u8 x 1 = x % 2 := bits_mask .u8 8 (by decide) wraps_u8 1 (by decide) x h0 h1
theorem bit_iff (c : UInt8) (n : Nat) (hn : n ≤ 7) (s : Int) (hs : s = (n : Int)) : (bits .and .u8 (shr .u8 (c.toNat : Int) s) 1 = 1) ↔ (c.toNat / 2 ^ n) % 2 = 1 := by
  subst hs
  have hc := byte_le c
  have e : shr .u8 (c.toNat : Int) (n : Int) = ((c.toNat / 2 ^ n : Nat) : Int) := by
    unfold shr
    rw [Int.toNat_natCast, Nat.min_eq_left (by simp only [IntKind.bits]; omega)]
    simp
  have hle : c.toNat / 2 ^ n ≤ c.toNat := Nat.div_le_self _ _
  rw [e]
  generalize c.toNat / 2 ^ n = q at hle ⊢
  rw [u8_and1 _ (by omega) (by omega)]
  omega

/-- Bit i of a row of bytes, the first byte's highest first. -/
def bitAt (b : List UInt8) (i : Nat) : Bool := decide (((b.getD (i / 8) 0).toNat / 2 ^ (7 - i % 8)) % 2 = 1)
/-- The types of a block: those of n bits from lo on. -/
def blk (w : Nat) (b : List UInt8) : Nat → Nat → List Int
  | _, 0 => []
  | lo, n + 1 => (if bitAt b lo = true then [256 * (w : Int) + (lo : Int)] else []) ++ blk w b (lo + 1) n
theorem blk_length (w : Nat) (b : List UInt8) : ∀ n lo, (blk w b lo n).length ≤ n := by
  intro n
  induction n with
  | zero => intro lo; simp [blk]
  | succ n ih =>
    intro lo
    have := ih (lo + 1)
    unfold blk
    split <;> simp <;> omega
theorem blk_add (w : Nat) (b : List UInt8) : ∀ m n lo, blk w b lo (m + n) = blk w b lo m ++ blk w b (lo + m) n := by
  intro m
  induction m with
  | zero => intro n lo; simp [blk]
  | succ m ih =>
    intro n lo
    rw [show m + 1 + n = (m + n) + 1 from by omega]
    rw [blk, blk, ih n (lo + 1), show lo + 1 + m = lo + (m + 1) from by omega, List.append_assoc]
/-- The types of a map whose blocks are above last; none: it is no map. -/
def tmap (last : Int) : List UInt8 → Option (List Int)
  | [] => some []
  | [_] => none
  | w :: n :: r => if (w.toNat : Int) ≤ last then none else if n.toNat < 1 then none else if 32 < n.toNat then none else if r.length < n.toNat then none else if (r.getD (n.toNat - 1) 0).toNat = 0 then none else (tmap (w.toNat : Int) (r.drop n.toNat)).map (blk w.toNat r 0 (8 * n.toNat) ++ ·)
  termination_by l => l.length
  decreasing_by simp; omega
theorem tmap_length : ∀ (N : Nat) (l : List UInt8) (last : Int) (ts : List Int), l.length ≤ N → tmap last l = some ts → ts.length ≤ 8 * l.length := by
  intro N
  induction N with
  | zero =>
    intro l last ts hl h
    obtain rfl : l = [] := List.length_eq_zero_iff.1 (by omega)
    simp [tmap] at h
    subst h
    simp
  | succ N ih =>
    intro l last ts hl h
    match l, hl, h with
    | [], hl, h => simp [tmap] at h; subst h; simp
    | [_], hl, h => simp [tmap] at h
    | w :: n :: r, hl, h =>
      simp only [List.length_cons] at hl ⊢
      rw [tmap] at h
      repeat' (split at h; · cases h)
      obtain ⟨t, ht, rfl⟩ := Option.map_eq_some_iff.1 h
      have h1 := ih (r.drop n.toNat) _ t (by simp; omega) ht
      have h2 := blk_length w.toNat r (8 * n.toNat) 0
      simp at h1 ⊢
      omega
def mres (acc : List Int) : Option (List Int) → List Int × Int
  | none => ([], 7)
  | some t => (acc ++ t, 0)
theorem mres_map (acc t : List Int) (o : Option (List Int)) : mres acc (o.map (t ++ ·)) = mres (acc ++ t) o := by
  cases o <;> simp [mres]
end Go.Proofs.YtpnbhblmfglkcaaDoor.Base
namespace Go.Proofs.YtpnbhblmfglkcaaDoor.Base
open Go.RowKit Go.Proofs.YtpnbhblmfglkcaaDoorW.PrintWords Go.Proofs.YtpnbhblmfglkcaaDoorW.PrintLast
def alnum (c : UInt8) : Bool := (decide (48 ≤ c.toNat) && decide (c.toNat ≤ 57)) || ((decide (97 ≤ c.toNat) && decide (c.toNat ≤ 122)) || (decide (65 ≤ c.toNat) && decide (c.toNat ≤ 90)))
/-- Short texts, one behind another, to the very end. -/
def exact : Nat → List UInt8 → Bool
  | _, [] => true
  | 0, _ => false
  | d + 1, c :: r => if r.length < c.toNat then false else exact d (r.drop c.toNat)
/-- What a letter of the program's forms takes. -/
def con (c : Nat) (l : List UInt8) : Option Nat :=
  if c = 49 then (if l.length < 1 then none else some 1) else if c = 50 then (if l.length < 2 then none else some 2) else if c = 52 ∨ c = 103 ∨ c = 113 then (if l.length < 4 then none else some 4)
  else if c = 110 then (if nm l = 0 then none else some (nm l)) else if c = 116 then (if tx l = 0 then none else some (tx l))
  else if c = 99 then (if tx l < 2 ∨ 16 < tx l then none else if ((l.take (tx l)).drop 1).all alnum then some (tx l) else none)
  else if c = 84 then (if l = [] then none else if exact l.length l then some l.length else none)
  else if c = 109 then (if (tmap (-1) l).isSome then some l.length else none) else if c = 42 then some l.length else none
def pg : List UInt8 → List UInt8 → Bool
  | [], l => l.isEmpty
  | c :: r, l => match con c.toNat l with | none => false | some n => pg r (l.drop n)
/-- The stretches that the names take, by the program's forms. -/
def psp : List UInt8 → Nat → List UInt8 → List (Nat × Nat)
  | [], _, _ => []
  | c :: r, p, l => match con c.toNat l with
    | none => []
    | some n => (if c.toNat = 110 then [(p, p + n)] else []) ++ psp r (p + n) (l.drop n)
def letters (l : List UInt8) : Prop := ∀ c ∈ l, c.toNat ∈ [49, 50, 52, 103, 113, 110, 116, 99, 84, 109, 42]
theorem tx_le (l : List UInt8) : tx l ≤ l.length := by
  cases l with
  | nil => exact Nat.zero_le _
  | cons c r => rw [tx]; split <;> simp <;> omega
theorem nm_le (l : List UInt8) : nm l ≤ l.length := (nmP_le l _ _).1
end Go.Proofs.YtpnbhblmfglkcaaDoor.Base
namespace Go.Proofs.YtpnbhblmfglkcaaDoor.Pure
open Go.RowKit Go.Proofs.YtpnbhblmfglkcaaDoor.F Go.Proofs.YtpnbhblmfglkcaaDoor.Base Go.Proofs.YtpnbhblmfglkcaaDoorW.PrintWords Go.Proofs.YtpnbhblmfglkcaaDoorW.PrintLast Go.Proofs.YtpnbhblmfglkcaaDoorW.PrintMore
set_option linter.unusedVariables false
set_option linter.unusedSimpArgs false
-- base: BaseMap
theorem impl_MapTypes_l2 (x : ByteArray) (w n : UInt8) (p r : List UInt8) (hx : L x = p ++ w :: n :: r) (hp : p.length ≤ 10000000) (h3 : n.toNat ≤ 32) (h4 : n.toNat ≤ r.length) (last kk : Nat) (hkk : kk < n.toNat) (m : Nat) : ∀ (d j : Nat) (acc : List Int), j + d = 8 → acc.length + d ≤ 100000000 → impl_MapTypes.l2 (d + 1 + m) x acc (last : Int) (p.length : Int) (w.toNat : Int) (n.toNat : Int) (kk : Int) (j : Int) = impl_MapTypes.l1 m x (acc ++ blk w.toNat r (8 * kk + j) d) (last : Int) (p.length : Int) (w.toNat : Int) (n.toNat : Int) ((kk + 1 : Nat) : Int) := by
  have hs := size_L x
  rw [hx] at hs
  simp only [List.length_append, List.length_cons] at hs
  have hw := byte_le w
  intro d
  induction d with
  | zero =>
    intro j acc hj hb
    rw [show 0 + 1 + m = m + 1 from by omega]
    simp only [impl_MapTypes.l2]
    rw [if_neg (by omega), w64 (by omega) (by omega)]
    simp [blk]
  | succ d ih =>
    intro j acc hj hb
    rw [show d + 1 + 1 + m = (d + 1 + m) + 1 from by omega]
    simp only [impl_MapTypes.l2]
    rw [if_pos (by omega)]
    simp (maxSteps := 10000000) (disch := omega) only [w64]
    rw [if_pos (by omega), if_pos (by omega), if_pos (by omega)]
    have b2 : bt x ((p.length : Int) + 2 + (kk : Int)) = ((r.getD kk 0).toNat : Int) := by
      rw [bt_L, hx, show ((p.length : Int) + 2 + (kk : Int)).toNat = p.length + (kk + 2) from by omega, getD_len]
      simp [List.getD_eq_getElem?_getD]
    rw [b2]
    have hbit := bit_iff (r.getD kk 0) (7 - j) (by omega) (7 - (j : Int)) (by omega)
    have e8 : (8 * kk + j) / 8 = kk := by omega
    have e8' : (8 * kk + j) % 8 = j := by omega
    rw [blk]
    by_cases hB : bitAt r (8 * kk + j) = true
    · have hB' : ((r.getD kk 0).toNat / 2 ^ (7 - j)) % 2 = 1 := by unfold bitAt at hB; rw [e8, e8'] at hB; exact of_decide_eq_true hB
      rw [if_pos (hbit.2 hB'), if_pos (by omega), if_pos hB]
      have := ih (j + 1) (acc ++ [256 * (w.toNat : Int) + ((8 * kk + j : Nat) : Int)]) (by omega) (by simp; omega)
      rw [show ((j + 1 : Nat) : Int) = (j : Int) + 1 from by omega, List.append_assoc, show 8 * kk + (j + 1) = 8 * kk + j + 1 from by omega] at this
      rw [← this, show 256 * (w.toNat : Int) + ((8 * kk + j : Nat) : Int) = 256 * (w.toNat : Int) + 8 * (kk : Int) + (j : Int) from by omega]
    · have hB' : ¬ ((r.getD kk 0).toNat / 2 ^ (7 - j)) % 2 = 1 := by unfold bitAt at hB; rw [e8, e8'] at hB; simpa using hB
      rw [if_neg (fun h => hB' (hbit.1 h)), if_neg hB]
      have := ih (j + 1) acc (by omega) (by omega)
      rw [show ((j + 1 : Nat) : Int) = (j : Int) + 1 from by omega, show 8 * kk + (j + 1) = 8 * kk + j + 1 from by omega] at this
      rw [this, List.nil_append]
theorem impl_MapTypes_l1 (x : ByteArray) (w n : UInt8) (p r : List UInt8) (hx : L x = p ++ w :: n :: r) (hp : p.length ≤ 10000000) (h3 : n.toNat ≤ 32) (h4 : n.toNat ≤ r.length) (last : Nat) (m : Nat) : ∀ (d kk : Nat) (acc : List Int), kk + d = n.toNat → acc.length + 8 * d ≤ 100000000 → impl_MapTypes.l1 (10 * d + 1 + m) x acc (last : Int) (p.length : Int) (w.toNat : Int) (n.toNat : Int) (kk : Int) = impl_MapTypes.l0 m x (acc ++ blk w.toNat r (8 * kk) (8 * d)) (last : Int) ((p.length + 2 + n.toNat : Nat) : Int) := by
  intro d
  induction d with
  | zero =>
    intro kk acc hk hb
    rw [show 10 * 0 + 1 + m = m + 1 from by omega]
    simp only [impl_MapTypes.l1]
    rw [if_neg (by omega)]
    simp (maxSteps := 10000000) (disch := omega) only [w64]
    simp only [Nat.mul_zero, blk, List.append_nil]
    rw [show (p.length : Int) + (2 + (n.toNat : Int)) = ((p.length + 2 + n.toNat : Nat) : Int) from by omega]
  | succ d ih =>
    intro kk acc hk hb
    rw [show 10 * (d + 1) + 1 + m = (8 + 1 + (10 * d + 1 + m)) + 1 from by omega]
    simp only [impl_MapTypes.l1]
    rw [if_pos (by omega)]
    have h2 := impl_MapTypes_l2 x w n p r hx hp h3 h4 last kk (by omega) (10 * d + 1 + m) 8 0 acc (by omega) (by omega)
    rw [show ((0 : Nat) : Int) = 0 from rfl] at h2
    have hl := blk_length w.toNat r 8 (8 * kk + 0)
    rw [h2, ih (kk + 1) _ (by omega) (by simp only [List.length_append]; omega), List.append_assoc, show 8 * (d + 1) = 8 + 8 * d from by omega, blk_add, show 8 * (kk + 1) = 8 * kk + 8 from by omega, Nat.add_zero]
theorem impl_MapTypes_l0 (x : ByteArray) (hx0 : x.size ≤ 1048576) : ∀ (N k : Nat) (acc : List Int) (last : Int) (p r : List UInt8), L x = p ++ r → r.length ≤ N → 400 * N < k → acc.length + 8 * r.length ≤ 90000000 → impl_MapTypes.l0 k x acc last (p.length : Int) = some (mres acc (tmap last r)) := by
  intro N
  induction N with
  | zero =>
    intro k acc last p r hx hn hk hb
    obtain ⟨k, rfl⟩ : ∃ m, k = m + 1 := ⟨k - 1, by omega⟩
    obtain rfl : r = [] := List.length_eq_zero_iff.1 (by omega)
    have hs := size_L x
    rw [hx] at hs
    simp only [List.append_nil] at hs
    simp only [impl_MapTypes.l0]
    rw [if_neg (by omega)]
    simp [tmap, mres]
  | succ N ih =>
    intro k acc last p r hx hn hk hb
    obtain ⟨k, rfl⟩ : ∃ m, k = m + 1 := ⟨k - 1, by omega⟩
    have hs := size_L x
    rw [hx] at hs
    simp only [impl_MapTypes.l0]
    match r, hx, hs, hn, hb with
    | [], hx, hs, hn, hb =>
      simp only [List.append_nil] at hs
      rw [if_neg (by omega)]
      simp [tmap, mres]
    | [c], hx, hs, hn, hb =>
      simp only [List.length_append, List.length_cons, List.length_nil] at hs
      rw [if_pos (by omega), w64 (by omega) (by omega), if_pos (by omega)]
      simp [tmap, mres]
    | w :: n :: r, hx, hs, hn, hb =>
      simp only [List.length_append, List.length_cons] at hs hn hb
      have hw := byte_le w
      have hnb := byte_le n
      have b0 : bt x (p.length : Int) = (w.toNat : Int) := bt_mid hx rfl
      have b1 : bt x ((p.length : Int) + 1) = (n.toNat : Int) := bt_mid (p := p ++ [w]) (c := n) (r := r) (by rw [hx]; simp) (by simp)
      rw [if_pos (by omega)]
      simp (maxSteps := 10000000) (disch := omega) only [w64]
      rw [if_neg (by omega), if_pos (by omega), if_pos (by omega), if_pos (by omega), b0, b1]
      rw [tmap]
      obtain ⟨k, rfl⟩ : ∃ m, k = m + 1 := ⟨k - 1, by omega⟩
      simp only [impl_MapTypes.j1, if_true]
      by_cases h1 : (w.toNat : Int) ≤ last
      · rw [if_pos h1, if_pos h1]; rfl
      rw [if_neg h1, if_neg h1]
      by_cases h2 : n.toNat < 1
      · rw [if_pos (by omega), if_pos h2]; rfl
      rw [if_neg (by omega), if_neg h2]
      by_cases h3 : 32 < n.toNat
      · rw [if_pos (by omega), if_pos h3]; rfl
      rw [if_neg (by omega), if_neg h3]
      by_cases h4 : r.length < n.toNat
      · rw [if_pos (by omega), if_pos h4]; rfl
      rw [if_neg (by omega), if_neg h4, if_pos (by omega), if_pos (by omega)]
      have b2 : bt x ((p.length : Int) + 1 + (n.toNat : Int)) = ((r.getD (n.toNat - 1) 0).toNat : Int) := by
        rw [bt_L, hx, show ((p.length : Int) + 1 + (n.toNat : Int)).toNat = p.length + (n.toNat - 1 + 2) from by omega, getD_len]
        simp [List.getD_eq_getElem?_getD]
      rw [b2]
      by_cases h5 : (r.getD (n.toNat - 1) 0).toNat = 0
      · rw [if_pos (by rw [beq_iff_eq]; omega), if_pos h5]; rfl
      rw [if_neg (by rw [beq_iff_eq]; omega), if_neg h5]
      obtain ⟨m, rfl⟩ : ∃ m, k = 10 * n.toNat + 1 + m := ⟨k - (10 * n.toNat + 1), by omega⟩
      have hl1 := impl_MapTypes_l1 x w n p r hx (by omega) (by omega) (by omega) w.toNat m n.toNat 0 acc (by omega) (by omega)
      rw [show ((0 : Nat) : Int) = 0 from rfl] at hl1
      rw [hl1]
      have hbl := blk_length w.toNat r (8 * n.toNat) 0
      have e2 : ((p.length + 2 + n.toNat : Nat) : Int) = ((p ++ w :: n :: r.take n.toNat).length : Int) := by simp [List.length_take]; omega
      rw [e2, ih m _ _ (p ++ w :: n :: r.take n.toNat) (r.drop n.toNat) (by rw [hx]; simp) (by simp; omega) (by omega) (by simp; omega), mres_map]
theorem impl_MapTypes_eq (a : ByteArray) (ha : a.size ≤ 1048576) (k : Nat) (hk : 450000000 ≤ k) : impl_MapTypes.f k a = some (mres [] (tmap (-1) (L a))) := by
  have hs := size_L a
  unfold impl_MapTypes.f
  exact impl_MapTypes_l0 a ha (L a).length k [] (-1) [] (L a) rfl (Nat.le_refl _) (by omega) (by simp; omega)

end Go.Proofs.YtpnbhblmfglkcaaDoor.Pure
namespace Go.Proofs.YtpnbhblmfglkcaaDoor.Pure
open Go.RowKit Go.Proofs.YtpnbhblmfglkcaaDoor.F Go.Proofs.YtpnbhblmfglkcaaDoor.Base Go.Proofs.YtpnbhblmfglkcaaDoorW.PrintWords Go.Proofs.YtpnbhblmfglkcaaDoorW.PrintLast Go.Proofs.YtpnbhblmfglkcaaDoorW.PrintMore
set_option linter.unusedVariables false
set_option linter.unusedSimpArgs false
-- base: BaseData
theorem impl_nameAt_l0 (x : ByteArray) (hx : x.size ≤ 1000000000) : ∀ (d p k : Nat), x.size ≤ p + d → p ≤ x.size + 64 → d < k → impl_nameAt.l0 k x (p : Int) = some (nmP (L x) d p : Int) := by
  intro d
  induction d with
  | zero =>
    intro p k h1 h2 hk
    obtain ⟨k, rfl⟩ : ∃ m, k = m + 1 := ⟨k - 1, by omega⟩
    rw [impl_nameAt.l0, if_neg (by omega)]
    rfl
  | succ d ih =>
    intro p k h1 h2 hk
    obtain ⟨k, rfl⟩ : ∃ m, k = m + 1 := ⟨k - 1, by omega⟩
    rw [impl_nameAt.l0]
    by_cases hp : p < x.size
    · have hl : p < (L x).length := by rw [← size_L]; exact hp
      have hc := byte_le (L x)[p]
      rw [if_pos (by omega), if_pos (by omega), bt_get hl, nmP, drop_at hl]
      generalize (L x)[p] = c at *
      rw [w64 (x := (c.toNat : Int)) (by omega) (by omega)]
      simp only
      by_cases h0 : c.toNat = 0
      · rw [if_pos (by omega), if_pos h0, w64 (by omega) (by omega)]
        by_cases h3 : 255 < p + 1
        · rw [if_pos (by omega), if_pos h3]; rfl
        · rw [if_neg (by omega), if_neg h3]; rfl
      · rw [if_neg (by omega), if_neg h0]
        by_cases h63 : 63 < c.toNat
        · rw [if_pos (by omega), if_pos h63]; rfl
        · rw [if_neg (by omega), if_neg h63, w64 (x := 1 + (c.toNat : Int)) (by omega) (by omega), w64 (by omega) (by omega)]
          have := ih (p + 1 + c.toNat) k (by omega) (by omega) (by omega)
          rw [← this]
          congr 1
          omega
    · rw [if_neg (by omega), nmP, List.drop_of_length_le (by rw [← size_L]; omega)]
      rfl
theorem impl_nameAt_eq (x : ByteArray) (hx : x.size ≤ 1000000000) (k : Nat) (hk : x.size + 1 < k) : impl_nameAt.f k x = some (nm (L x) : Int) := by
  unfold impl_nameAt.f nm
  rw [← size_L]
  exact impl_nameAt_l0 x hx (x.size + 1) 0 k (by omega) (by omega) hk

end Go.Proofs.YtpnbhblmfglkcaaDoor.Pure
namespace Go.Proofs.YtpnbhblmfglkcaaDoor.Pure
open Go.RowKit Go.Proofs.YtpnbhblmfglkcaaDoor.F Go.Proofs.YtpnbhblmfglkcaaDoor.Base Go.Proofs.YtpnbhblmfglkcaaDoorW.PrintWords Go.Proofs.YtpnbhblmfglkcaaDoorW.PrintLast Go.Proofs.YtpnbhblmfglkcaaDoorW.PrintMore
set_option linter.unusedVariables false
set_option linter.unusedSimpArgs false
-- base: BaseForm
theorem impl_parsed_alnum (c : UInt8) : impl_parsed.alnum (c.toNat : Int) = alnum c := by
  unfold impl_parsed.alnum alnum
  congr 1 <;> (try congr 1) <;> (try congr 1) <;> simp <;> omega
theorem impl_parsed_tMost (s : ByteArray) : ∀ (d k : Nat), k ≤ s.size + 256 → impl_parsed.tEnd s d k ≤ s.size + 256 := by
  intro d
  induction d with
  | zero => intro k h; exact h
  | succ d ih =>
    intro k h
    rw [impl_parsed.tEnd]
    split
    · have := bt_range s (k : Int)
      exact ih _ (by omega)
    · exact h
theorem impl_parsed_tEnd (s : ByteArray) : ∀ (d k : Nat), s.size ≤ k + d → s.size ≤ impl_parsed.tEnd s d k ∧ k ≤ impl_parsed.tEnd s d k ∧ (impl_parsed.tEnd s d k = s.size ↔ (k ≤ s.size ∧ exact d ((L s).drop k) = true)) := by
  have hs := size_L s
  intro d
  induction d with
  | zero =>
    intro k h
    refine ⟨by rw [impl_parsed.tEnd]; omega, by rw [impl_parsed.tEnd]; omega, ?_⟩
    rw [impl_parsed.tEnd, List.drop_of_length_le (by omega)]
    simp [exact]
    omega
  | succ d ih =>
    intro k h
    rw [impl_parsed.tEnd]
    by_cases hk : k < s.size
    · have hl : k < (L s).length := by omega
      rw [if_pos hk, drop_at hl, exact, bt_get hl]
      generalize (L s)[k] = c
      have e : k + 1 + (c.toNat : Int).toNat = k + 1 + c.toNat := by omega
      rw [e]
      obtain ⟨h1, h2, h3⟩ := ih (k + 1 + c.toNat) (by omega)
      refine ⟨h1, by omega, ?_⟩
      rw [h3, List.drop_drop, List.length_drop]
      by_cases hc : (L s).length - (k + 1) < c.toNat
      · rw [if_pos hc]
        simp
        omega
      · rw [if_neg hc]
        exact ⟨fun h => ⟨by omega, h.2⟩, fun h => ⟨by omega, h.2⟩⟩
    · rw [if_neg hk, List.drop_of_length_le (by omega)]
      refine ⟨by omega, Nat.le_refl _, ?_⟩
      simp [exact]
      omega
theorem impl_parsed_n (s : ByteArray) (hs : s.size ≤ 65535) (K : Nat) (hK : 450000000 ≤ K) (c : UInt8) (hc : c.toNat ∈ [49, 50, 52, 103, 113, 110, 116, 99, 84, 109, 42]) (p : Nat) (hp : p ≤ s.size) (l : List UInt8) (hl : (L s).drop p = l) :
    ∃ o, impl_parsed.n K (c.toNat : Int) s p = some o ∧ (match o with | none => con c.toNat l = none | some n => 0 ≤ n ∧ n ≤ 100000 ∧ con c.toNat l = if (s.size : Int) < (p : Int) + n then none else some n.toNat) := by
  have hlen : l.length = s.size - p := by rw [← hl, List.length_drop, ← size_L]
  have hx : L (s.extract p s.size) = l := by rw [L_extract, hl, List.take_of_length_le (by omega)]
  have hxs : (s.extract p s.size).size = l.length := by rw [size_L, hx]
  have hbt : ∀ b t, l = b :: t → bt s (p : Int) = (b.toNat : Int) := fun b t e => by
    have h1 : p < (L s).length := by
      rw [← size_L]
      rw [e] at hlen
      simp at hlen
      omega
    rw [bt_get h1]
    rw [drop_at h1, e] at hl
    rw [(List.cons.inj hl).1]
  have fix : ∀ m : Nat, (if l.length < m then (none : Option Nat) else some m) = if (s.size : Int) < (p : Int) + (m : Int) then none else some ((m : Int)).toNat := by
    intro m
    by_cases h1 : l.length < m
    · rw [if_pos h1, if_pos (by omega)]
    · rw [if_neg h1, if_neg (by omega)]; rfl
  simp only [List.mem_cons, List.not_mem_nil, or_false] at hc
  rcases hc with h | h | h | h | h | h | h | h | h | h | h <;> rw [h]
  · exact ⟨some 1, by simp [impl_parsed.n], by decide, by decide, by unfold con; rw [if_pos rfl]; exact fix 1⟩
  · exact ⟨some 2, by simp [impl_parsed.n], by decide, by decide, by unfold con; rw [if_neg (by decide), if_pos rfl]; exact fix 2⟩
  · exact ⟨some 4, by simp [impl_parsed.n], by decide, by decide, by unfold con; rw [if_neg (by decide), if_neg (by decide), if_pos (by decide)]; exact fix 4⟩
  · exact ⟨some 4, by simp [impl_parsed.n], by decide, by decide, by unfold con; rw [if_neg (by decide), if_neg (by decide), if_pos (by decide)]; exact fix 4⟩
  · exact ⟨some 4, by simp [impl_parsed.n], by decide, by decide, by unfold con; rw [if_neg (by decide), if_neg (by decide), if_pos (by decide)]; exact fix 4⟩
  · have e1 : impl_parsed.n K ((110 : Nat) : Int) s p = (impl_nameAt.f K (s.extract p s.size)).bind fun n => some (if n = 0 then none else some n) := by unfold impl_parsed.n; simp
    have e2 : con 110 l = if nm l = 0 then none else some (nm l) := by unfold con; simp
    rw [e1, e2, impl_nameAt_eq _ (by omega) K (by omega), Option.bind_some, hx]
    have h1 := nm_le l
    by_cases h0 : nm l = 0
    · exact ⟨none, by rw [if_pos (by omega)], by rw [if_pos h0]⟩
    · exact ⟨some (nm l : Int), by rw [if_neg (by omega)], by omega, by omega, by rw [if_neg h0, if_neg (by omega)]; rfl⟩
  · have e1 : impl_parsed.n K ((116 : Nat) : Int) s p = some (if s.size ≤ p then none else some (1 + bt s (p : Int))) := by unfold impl_parsed.n; simp
    have e2 : con 116 l = if tx l = 0 then none else some (tx l) := by unfold con; simp
    rw [e1, e2]
    cases l with
    | nil => exact ⟨none, by rw [if_pos (by simp at hlen; omega)], rfl⟩
    | cons b t =>
      have hb := byte_le b
      simp only [List.length_cons] at hlen
      rw [hbt b t rfl, tx, if_neg (by omega)]
      refine ⟨_, rfl, by omega, by omega, ?_⟩
      by_cases h1 : t.length < b.toNat
      · rw [if_pos h1, if_pos rfl, if_pos (by omega)]
      · rw [if_neg h1, if_neg (by omega), if_neg (by omega)]
        congr 1
        omega
  · have e1 : impl_parsed.n K ((99 : Nat) : Int) s p = some (if s.size ≤ p then none else if 1 + bt s (p : Int) < 2 then none else if 16 < 1 + bt s (p : Int) then none else if (s.size : Int) < (p : Int) + (1 + bt s (p : Int)) then none else if (bytesOf (s.extract (p + 1) (p + (1 + bt s (p : Int)).toNat))).all impl_parsed.alnum then some (1 + bt s (p : Int)) else none) := by unfold impl_parsed.n; simp
    have e2 : con 99 l = if tx l < 2 ∨ 16 < tx l then none else if ((l.take (tx l)).drop 1).all alnum then some (tx l) else none := by unfold con; simp
    rw [e1, e2]
    cases l with
    | nil => exact ⟨none, by rw [if_pos (by simp at hlen; omega)], rfl⟩
    | cons b t =>
      have hb := byte_le b
      simp only [List.length_cons] at hlen
      rw [hbt b t rfl, if_neg (by omega)]
      have hdt : (L s).drop (p + 1) = t := by
        rw [← List.drop_drop, hl]
        rfl
      by_cases h1 : t.length < b.toNat
      · have h2 : tx (b :: t) = 0 := by rw [tx, if_pos h1]
        rw [h2, if_pos (show ((0 : Nat) < 2 ∨ 16 < (0 : Nat)) from .inl (by decide))]
        refine ⟨none, ?_, rfl⟩
        by_cases g1 : (1 : Int) + b.toNat < 2
        · rw [if_pos g1]
        · rw [if_neg g1]
          by_cases g2 : 16 < (1 : Int) + b.toNat
          · rw [if_pos g2]
          · rw [if_neg g2, if_pos (by omega)]
      · have h2 : tx (b :: t) = b.toNat + 1 := by rw [tx, if_neg h1]
        rw [h2]
        by_cases g1 : (1 : Int) + b.toNat < 2
        · exact ⟨none, by rw [if_pos g1], by rw [if_pos (show (b.toNat + 1 < 2 ∨ 16 < b.toNat + 1) by omega)]⟩
        · by_cases g2 : 16 < (1 : Int) + b.toNat
          · exact ⟨none, by rw [if_neg g1, if_pos g2], by rw [if_pos (show (b.toNat + 1 < 2 ∨ 16 < b.toNat + 1) by omega)]⟩
          · rw [if_neg g1, if_neg g2, if_neg (show ¬ ((s.size : Int) < (p : Int) + ((1 : Int) + b.toNat)) by omega), if_neg (show ¬ (b.toNat + 1 < 2 ∨ 16 < b.toNat + 1) by omega)]
            have h3 : (bytesOf (s.extract (p + 1) (p + ((1 : Int) + b.toNat).toNat))).all impl_parsed.alnum = (((b :: t).take (b.toNat + 1)).drop 1).all alnum := by
              have h4 : bytesOf (s.extract (p + 1) (p + ((1 : Int) + b.toNat).toNat)) = (L (s.extract (p + 1) (p + ((1 : Int) + b.toNat).toNat))).map fun c => (c.toNat : Int) := rfl
              rw [h4, L_extract, hdt, show p + ((1 : Int) + b.toNat).toNat - (p + 1) = b.toNat from by omega, List.all_map]
              rw [List.take_succ_cons, List.drop_succ_cons, List.drop_zero]
              congr 1
              funext c
              exact impl_parsed_alnum c
            rw [h3]
            by_cases g3 : (((b :: t).take (b.toNat + 1)).drop 1).all alnum = true
            · rw [if_pos g3, if_pos g3]
              refine ⟨_, rfl, by omega, by omega, ?_⟩
              rw [if_neg (by omega)]
              congr 1
              omega
            · rw [if_neg g3, if_neg g3]
              exact ⟨none, rfl, rfl⟩
  · have e1 : impl_parsed.n K ((84 : Nat) : Int) s p = some (if impl_parsed.tEnd s (s.size - p) p = p then none else some ((impl_parsed.tEnd s (s.size - p) p : Int) - p)) := by unfold impl_parsed.n; simp
    have e2 : con 84 l = if l = [] then none else if exact l.length l then some l.length else none := by unfold con; simp
    rw [e1, e2]
    obtain ⟨h1, h2, h3⟩ := impl_parsed_tEnd s (s.size - p) p (by omega)
    have h4 := impl_parsed_tMost s (s.size - p) p (by omega)
    have hex : exact (s.size - p) l = exact l.length l := by rw [hlen]
    rw [hl, hex] at h3
    generalize impl_parsed.tEnd s (s.size - p) p = e at *
    by_cases hn : l = []
    · have h0 : l.length = 0 := by rw [hn]; rfl
      have h5 : exact l.length l = true := by rw [hn]; rfl
      have h6 := h3.2 ⟨hp, h5⟩
      exact ⟨none, by rw [if_pos (by omega)], by rw [if_pos hn]⟩
    · have h0 : l.length ≠ 0 := fun h => hn (List.eq_nil_of_length_eq_zero h)
      refine ⟨some ((e : Int) - p), by rw [if_neg (by omega)], by omega, by omega, ?_⟩
      rw [if_neg hn]
      by_cases h5 : exact l.length l = true
      · have h6 := h3.2 ⟨hp, h5⟩
        rw [if_pos h5, if_neg (by omega)]
        congr 1
        omega
      · have h6 : ¬ e = s.size := fun h => h5 (h3.1 h).2
        rw [if_neg h5, if_pos (by omega)]
  · have e1 : impl_parsed.n K ((109 : Nat) : Int) s p = (impl_MapTypes.f K (s.extract p s.size)).bind fun r => some (if r.2 = 0 then some ((s.size : Int) - p) else none) := by unfold impl_parsed.n; simp
    have e2 : con 109 l = if (tmap (-1) l).isSome then some l.length else none := by unfold con; simp
    rw [e1, e2, impl_MapTypes_eq _ (by omega) K (by omega), Option.bind_some, hx]
    cases tmap (-1) l with
    | none => exact ⟨none, by rw [mres, if_neg (by decide)], rfl⟩
    | some ts => exact ⟨some ((s.size : Int) - p), by rw [mres, if_pos rfl], by omega, by omega, by rw [Option.isSome_some, if_pos rfl, if_neg (by omega)]; congr 1; omega⟩
  · exact ⟨some ((s.size : Int) - p), by simp [impl_parsed.n], by omega, by omega, by unfold con; simp; omega⟩
theorem impl_parsed_go (s : ByteArray) (hs : s.size ≤ 65535) (K : Nat) (hK : 450000000 ≤ K) : ∀ (r : List UInt8) (p : Nat) (sp : List _), letters r → p ≤ s.size → ∃ sp', impl_parsed.go K s r p sp = some (sp', pg r ((L s).drop p)) ∧ (pg r ((L s).drop p) = true → sp' = sp ++ (psp r p ((L s).drop p)).map fun x => ⟨(x.1 : Int), (x.2 : Int)⟩) := by
  intro r
  induction r with
  | nil =>
    intro p sp _ hp
    refine ⟨sp, ?_, fun _ => by simp [psp]⟩
    rw [impl_parsed.go, pg]
    congr 2
    rw [Bool.eq_iff_iff, List.isEmpty_iff, List.drop_eq_nil_iff, ← size_L, beq_iff_eq]
    omega
  | cons c r ih =>
    intro p sp hr hp
    obtain ⟨o, h1, h2⟩ := impl_parsed_n s hs K hK c (hr c (by simp)) p hp _ rfl
    rw [impl_parsed.go, h1, Option.bind_some, pg, psp]
    cases o with
    | none =>
      simp only at h2
      rw [h2]
      exact ⟨[], rfl, fun e => by cases e⟩
    | some n =>
      simp only at h2
      obtain ⟨h3, h4, h5⟩ := h2
      simp only
      rw [if_neg (by omega), h5]
      by_cases h6 : (s.size : Int) < (p : Int) + n
      · rw [if_pos h6, if_pos h6]
        exact ⟨[], rfl, fun e => by cases e⟩
      · rw [if_neg h6, if_neg h6]
        obtain ⟨sp', h7, h8⟩ := ih (p + n.toNat) (if (c.toNat : Int) = 110 then sp ++ [⟨p, (p : Int) + n⟩] else sp) (fun x hx => hr x (by simp [hx])) (by omega)
        refine ⟨sp', ?_, ?_⟩
        · rw [h7]
          simp only [List.drop_drop]
        · simp only [List.drop_drop]
          intro e
          rw [h8 e]
          by_cases h9 : (c.toNat : Int) = 110
          · rw [if_pos h9, if_pos (by omega), List.append_assoc]
            simp only [List.map_append, List.map_cons, List.map_nil]
            rw [show ((p + n.toNat : Nat) : Int) = (p : Int) + n from by omega]
          · rw [if_neg h9, if_neg (by omega), List.nil_append]

end Go.Proofs.YtpnbhblmfglkcaaDoor.Pure
namespace Go.Proofs.YtpnbhblmfglkcaaDoor.Pure
open Go.RowKit Go.Proofs.YtpnbhblmfglkcaaDoor.F Go.Proofs.YtpnbhblmfglkcaaDoor.Base Go.Proofs.YtpnbhblmfglkcaaDoorW.PrintWords Go.Proofs.YtpnbhblmfglkcaaDoorW.PrintLast Go.Proofs.YtpnbhblmfglkcaaDoorW.PrintMore
set_option linter.unusedVariables false
set_option linter.unusedSimpArgs false
-- base: BaseForm
/-- The reference's form of a type. -/
def sform (t : Int) : List UInt8 :=
  if t = 1 then [98, 98, 98, 98] else if t = 2 ∨ t = 5 ∨ t = 12 ∨ t = 39 then [110] else if t = 6 then [110, 110, 98, 98, 98, 98, 98, 98, 98, 98, 98, 98, 98, 98, 98, 98, 98, 98, 98, 98, 98, 98]
  else if t = 13 then [116, 116] else if t = 15 then [98, 98, 110] else if t = 16 then [115] else if t = 28 then [98, 98, 98, 98, 98, 98, 98, 98, 98, 98, 98, 98, 98, 98, 98, 98]
  else if t = 33 then [98, 98, 98, 98, 98, 98, 110] else if t = 35 then [98, 98, 98, 98, 116, 116, 116, 110] else if t = 47 then [110, 109] else if t = 257 then [98, 99] else [42]
theorem spec_l02Form_eq (t : Int) (k : Nat) (hk : 1 ≤ k) : spec_l02Form.f k t = some (B (sform t)) := by
  obtain ⟨k, rfl⟩ : ∃ m, k = m + 1 := ⟨k - 1, by omega⟩
  unfold spec_l02Form.f
  by_cases c1 : t = 1
  · subst c1; rfl
  by_cases c2 : t = 2
  · subst c2; rfl
  by_cases c5 : t = 5
  · subst c5; rfl
  by_cases c12 : t = 12
  · subst c12; rfl
  by_cases c39 : t = 39
  · subst c39; rfl
  rw [if_neg c1, if_neg c2, if_neg c5, if_neg c12, spec_l02Form.j0, if_neg (by simpa using c39)]
  have hs : sform t = (if t = 6 then [110, 110, 98, 98, 98, 98, 98, 98, 98, 98, 98, 98, 98, 98, 98, 98, 98, 98, 98, 98, 98, 98]
      else if t = 13 then [116, 116] else if t = 15 then [98, 98, 110] else if t = 16 then [115] else if t = 28 then [98, 98, 98, 98, 98, 98, 98, 98, 98, 98, 98, 98, 98, 98, 98, 98]
      else if t = 33 then [98, 98, 98, 98, 98, 98, 110] else if t = 35 then [98, 98, 98, 98, 116, 116, 116, 110] else if t = 47 then [110, 109] else if t = 257 then [98, 99] else [42]) := by
    unfold sform
    rw [if_neg c1, if_neg (show ¬ (t = 2 ∨ t = 5 ∨ t = 12 ∨ t = 39) by omega)]
  rw [hs]
  by_cases c6 : t = 6
  · subst c6; rfl
  by_cases c13 : t = 13
  · subst c13; rfl
  by_cases c15 : t = 15
  · subst c15; rfl
  by_cases c16 : t = 16
  · subst c16; rfl
  by_cases c28 : t = 28
  · subst c28; rfl
  by_cases c33 : t = 33
  · subst c33; rfl
  by_cases c35 : t = 35
  · subst c35; rfl
  by_cases c47 : t = 47
  · subst c47; rfl
  by_cases c257 : t = 257
  · subst c257; rfl
  simp only [if_neg c6, if_neg c13, if_neg c15, if_neg c16, if_neg c28, if_neg c33, if_neg c35, if_neg c47, if_neg c257]
  rfl

end Go.Proofs.YtpnbhblmfglkcaaDoor.Pure
namespace Go.Proofs.YtpnbhblmfglkcaaDoor.Pure
open Go.RowKit Go.Proofs.YtpnbhblmfglkcaaDoor.F Go.Proofs.YtpnbhblmfglkcaaDoor.Base Go.Proofs.YtpnbhblmfglkcaaDoorW.PrintWords Go.Proofs.YtpnbhblmfglkcaaDoorW.PrintLast Go.Proofs.YtpnbhblmfglkcaaDoorW.PrintMore
set_option linter.unusedVariables false
set_option linter.unusedSimpArgs false
-- base: BaseMap
theorem spec_l02Map_l0 : ∀ (N k : Nat) (x : ByteArray) (last : Int), x.size ≤ N → N < k → spec_l02Map.l0 k x last = some (tmap last (L x)).isSome := by
  intro N
  induction N with
  | zero =>
    intro k x last hn hk
    obtain ⟨k, rfl⟩ : ∃ m, k = m + 1 := ⟨k - 1, by omega⟩
    have hs := size_L x
    have hx : L x = [] := List.length_eq_zero_iff.1 (by omega)
    simp only [spec_l02Map.l0, toL]
    rw [if_pos hx, hx]
    simp [tmap]
  | succ N ih =>
    intro k x last hn hk
    obtain ⟨k, rfl⟩ : ∃ m, k = m + 1 := ⟨k - 1, by omega⟩
    have hs := size_L x
    simp only [spec_l02Map.l0, toL]
    match hx : L x with
    | [] => rw [if_pos rfl]; simp [tmap]
    | [c] =>
      rw [hx] at hs
      simp only [List.length_cons, List.length_nil] at hs
      rw [if_neg (by simp), if_pos (by omega)]
      simp [tmap]
    | w :: n :: r =>
      rw [hx] at hs
      simp only [List.length_cons] at hs
      have hw := byte_le w
      have hnb := byte_le n
      have b0 : bt x 0 = (w.toNat : Int) := bt_cons hx
      have b1 : bt x 1 = (n.toNat : Int) := bt_mid (p := [w]) hx rfl
      rw [if_neg (by simp), if_neg (by omega), if_pos (by omega), if_pos (by omega), b0, b1]
      simp (maxSteps := 10000000) (disch := omega) only [w64]
      rw [tmap]
      by_cases h1 : (w.toNat : Int) ≤ last
      · rw [if_pos h1, if_pos h1]; rfl
      · rw [if_neg h1, if_neg h1]
        by_cases h2 : n.toNat < 1
        · rw [if_pos (by omega), if_pos h2]; rfl
        · rw [if_neg (by omega), if_neg h2]
          by_cases h3 : 32 < n.toNat
          · rw [if_pos (by omega), if_pos h3]; rfl
          · rw [if_neg (by omega), if_neg h3]
            by_cases h4 : r.length < n.toNat
            · rw [if_pos (by omega), if_pos h4]; rfl
            · rw [if_neg (by omega), if_neg h4, if_pos (by omega), if_pos (by omega)]
              have b2 : bt x ((n.toNat : Int) + 1) = ((r.getD (n.toNat - 1) 0).toNat : Int) := by
                rw [bt_L, hx, show ((n.toNat : Int) + 1).toNat = (n.toNat - 1) + 2 from by omega]
                simp [List.getD_eq_getElem?_getD]
              rw [b2]
              by_cases h5 : (r.getD (n.toNat - 1) 0).toNat = 0
              · rw [if_pos (by omega), if_pos h5]; rfl
              · rw [if_neg (by omega), if_neg h5, if_pos (by omega), if_pos (by omega)]
                have e2 : L (x.extract ((n.toNat : Int) + 2).toNat x.size) = r.drop n.toNat := by
                  rw [L_extract, hx, hs, show ((n.toNat : Int) + 2).toNat = n.toNat + 2 from by omega]
                  simp [List.take_of_length_le]
                rw [ih k _ _ (by rw [size_L, e2]; simp; omega) (by omega), e2]
                cases tmap (w.toNat : Int) (r.drop n.toNat) <;> simp
theorem spec_l02Map_eq (a : ByteArray) (k : Nat) (hk : a.size < k) : spec_l02Map.f k a = some (tmap (-1) (L a)).isSome := by
  unfold spec_l02Map.f
  exact spec_l02Map_l0 a.size k a (-1) (Nat.le_refl _) hk

end Go.Proofs.YtpnbhblmfglkcaaDoor.Pure
namespace Go.Proofs.YtpnbhblmfglkcaaDoor.Pure
open Go.RowKit Go.Proofs.YtpnbhblmfglkcaaDoor.F Go.Proofs.YtpnbhblmfglkcaaDoor.Base Go.Proofs.YtpnbhblmfglkcaaDoorW.PrintWords Go.Proofs.YtpnbhblmfglkcaaDoorW.PrintLast Go.Proofs.YtpnbhblmfglkcaaDoorW.PrintMore
set_option linter.unusedVariables false
set_option linter.unusedSimpArgs false
-- base: BaseData
theorem spec_l02NameAt_l0 (x : ByteArray) (hx : x.size ≤ 1000000000) : ∀ (d p k : Nat), x.size ≤ p + d → p ≤ x.size + 64 → 2 * d + 2 ≤ k → spec_l02NameAt.l0 k x (p : Int) = some (B ((L x).take (nmP (L x) d p))) := by
  intro d
  induction d with
  | zero =>
    intro p k h1 h2 hk
    obtain ⟨k, rfl⟩ : ∃ m, k = m + 1 + 1 := ⟨k - 2, by omega⟩
    rw [spec_l02NameAt.l0, if_neg (by omega), spec_l02NameAt.j1, if_neg (by decide)]
    rfl
  | succ d ih =>
    intro p k h1 h2 hk
    obtain ⟨k, rfl⟩ : ∃ m, k = m + 1 + 1 := ⟨k - 2, by omega⟩
    rw [spec_l02NameAt.l0]
    by_cases hp : p < x.size
    · rw [if_pos (by omega), spec_l02NameAt.j1]
      by_cases h255 : p < 255
      · have hl : p < (L x).length := by rw [← size_L]; exact hp
        have hc := byte_le (L x)[p]
        have hpi : (p : Int) < 255 := by omega
        rw [if_pos (decide_eq_true hpi), if_pos (by omega), if_pos (by omega), bt_get hl, nmP, drop_at hl]
        generalize (L x)[p] = c at *
        rw [w64 (x := (c.toNat : Int)) (by omega) (by omega)]
        simp only
        by_cases h0 : c.toNat = 0
        · rw [if_pos (by omega), if_pos h0, w64 (by omega) (by omega), if_pos (by omega), if_pos (by omega), if_neg (by omega)]
          congr 1
          apply L_inj
          rw [L_extract, L_B]
          simp
        · rw [if_neg (by omega), if_neg h0]
          by_cases h63 : 63 < c.toNat
          · rw [if_pos (by omega), if_pos h63]; rfl
          · rw [if_neg (by omega), if_neg h63, w64 (x := (p : Int) + (c.toNat : Int)) (by omega) (by omega), w64 (by omega) (by omega)]
            have := ih (p + 1 + c.toNat) k (by omega) (by omega) (by omega)
            rw [← this]
            congr 1
            omega
      · have hpi : ¬ (p : Int) < 255 := by omega
        rw [decide_eq_false hpi, if_neg (by decide), nmP_big _ _ _ (by omega)]
        rfl
    · rw [if_neg (by omega), spec_l02NameAt.j1, if_neg (by decide), nmP, List.drop_of_length_le (by rw [← size_L]; omega)]
      rfl
theorem spec_l02NameAt_eq (x : ByteArray) (hx : x.size ≤ 1000000000) (k : Nat) (hk : 2 * x.size + 4 ≤ k) : spec_l02NameAt.f k x = some (B ((L x).take (nm (L x)))) := by
  unfold spec_l02NameAt.f nm
  rw [← size_L]
  exact spec_l02NameAt_l0 x hx (x.size + 1) 0 k (by omega) (by omega) (by omega)

end Go.Proofs.YtpnbhblmfglkcaaDoor.Pure
namespace Go.Proofs.YtpnbhblmfglkcaaDoor.Pure
open Go.RowKit Go.Proofs.YtpnbhblmfglkcaaDoor.F Go.Proofs.YtpnbhblmfglkcaaDoor.Base Go.Proofs.YtpnbhblmfglkcaaDoorW.PrintWords Go.Proofs.YtpnbhblmfglkcaaDoorW.PrintLast Go.Proofs.YtpnbhblmfglkcaaDoorW.PrintMore
set_option linter.unusedVariables false
set_option linter.unusedSimpArgs false
-- base: BaseData
theorem spec_l02Text_eq (x : ByteArray) (hx : x.size ≤ 1000000000) : spec_l02Text.f x = some (B ((L x).take (tx (L x)))) := by
  unfold spec_l02Text.f
  have hs := size_L x
  cases h : L x with
  | nil => rw [if_pos ((toList_nil x).2 h)]; rfl
  | cons c r =>
    rw [h] at hs
    have hc := byte_le c
    simp only [List.length_cons] at hs
    rw [if_neg (fun e => by rw [toList_nil, h] at e; cases e), if_pos (by omega), bt_cons h, w64 (x := (c.toNat : Int)) (by omega) (by omega), w64 (by omega) (by omega), tx]
    by_cases h1 : r.length < c.toNat
    · rw [if_pos (by omega), if_pos h1]; rfl
    · rw [if_neg (by omega), if_neg h1, if_pos (by omega), if_pos (by omega)]
      congr 1
      apply L_inj
      rw [L_extract, L_B, h]
      simp

end Go.Proofs.YtpnbhblmfglkcaaDoor.Pure
namespace Go.Proofs.YtpnbhblmfglkcaaDoor.Pure
open Go.RowKit Go.Proofs.YtpnbhblmfglkcaaDoor.F Go.Proofs.YtpnbhblmfglkcaaDoor.Base Go.Proofs.YtpnbhblmfglkcaaDoorW.PrintWords Go.Proofs.YtpnbhblmfglkcaaDoorW.PrintLast Go.Proofs.YtpnbhblmfglkcaaDoorW.PrintMore
set_option linter.unusedVariables false
set_option linter.unusedSimpArgs false
-- base: BaseForm
theorem spec_l02Alnum_is (c : UInt8) : spec_l02Alnum.f (c.toNat : Int) = some (alnum c) := by
  have h : ∀ n : Fin 256, spec_l02Alnum.f (n.val : Int) = some ((decide (48 ≤ n.val) && decide (n.val ≤ 57)) || ((decide (97 ≤ n.val) && decide (n.val ≤ 122)) || (decide (65 ≤ n.val) && decide (n.val ≤ 90)))) := by decide +kernel
  exact h ⟨c.toNat, c.toNat_lt⟩
theorem spec_l02Parts_tag (K : Nat) : ∀ l : List UInt8, spec_l02Parts.tag K (l.map fun c => (c.toNat : Int)) = some (l.all alnum) := by
  intro l
  induction l with
  | nil => rfl
  | cons c r ih =>
    rw [List.map_cons, spec_l02Parts.tag, spec_l02Alnum_is, Option.bind_some, List.all_cons]
    cases alnum c
    · rfl
    · rw [if_pos rfl, ih]; rfl
/-- The texts that stand at the beginning, as many as there are: how many bytes. -/
def runs : Nat → List UInt8 → Nat
  | 0, _ => 0
  | d + 1, l => if tx l = 0 then 0 else tx l + runs d (l.drop (tx l))
theorem runs_le : ∀ (d : Nat) (l : List UInt8), runs d l ≤ l.length := by
  intro d
  induction d with
  | zero => intro l; exact Nat.zero_le _
  | succ d ih =>
    intro l
    rw [runs]
    split
    · exact Nat.zero_le _
    · have := ih (l.drop (tx l))
      have h := tx_le l
      rw [List.length_drop] at this
      omega
theorem spec_l02Parts_run (d : ByteArray) (hd : d.size ≤ 65535) : ∀ (n k : Nat) (p : ByteArray) (q : Nat), L p = (L d).take q → q ≤ d.size → d.size ≤ q + n → n + 1 ≤ k →
    spec_l02Parts.run k d p = some (B ((L d).take (q + runs n ((L d).drop q)))) := by
  have hs := size_L d
  intro n
  induction n with
  | zero =>
    intro k p q hp hq hn hk
    obtain ⟨k, rfl⟩ : ∃ m, k = m + 1 := ⟨k - 1, by omega⟩
    have hps : p.size = q := by rw [size_L, hp, List.length_take]; omega
    have hx : L (d.extract p.size d.size) = [] := by rw [L_extract, hps, List.drop_of_length_le (by omega)]; simp
    rw [spec_l02Parts.run, if_neg (by omega), spec_l02Text_eq _ (by rw [size_L, hx]; decide), Option.bind_some, hx, if_pos (by rw [size_L, L_B]; rfl)]
    congr 1
    apply L_inj
    rw [L_B, hp]
    rfl
  | succ n ih =>
    intro k p q hp hq hn hk
    obtain ⟨k, rfl⟩ : ∃ m, k = m + 1 := ⟨k - 1, by omega⟩
    have hps : p.size = q := by rw [size_L, hp, List.length_take]; omega
    have hx : L (d.extract p.size d.size) = (L d).drop q := by rw [L_extract, hps, List.take_of_length_le (by rw [List.length_drop]; omega)]
    have hxl : ((L d).drop q).length = d.size - q := by rw [List.length_drop]; omega
    have ht := tx_le ((L d).drop q)
    rw [spec_l02Parts.run, if_neg (by omega), spec_l02Text_eq _ (by rw [size_L, hx]; omega), Option.bind_some, hx, runs]
    have hsz : (B (((L d).drop q).take (tx ((L d).drop q)))).size = tx ((L d).drop q) := by rw [size_L, L_B, List.length_take]; omega
    rw [hsz]
    by_cases h0 : tx ((L d).drop q) = 0
    · rw [if_pos h0, if_pos h0]
      congr 1
      apply L_inj
      rw [L_B, hp]
      rfl
    · rw [if_neg h0, if_neg h0, if_pos (by omega), ih k _ (q + tx ((L d).drop q)) (by rw [L_append, L_B, hp, List.take_add]) (by omega) (by omega) (by omega), List.drop_drop]
      congr 3
      omega
/-- What a letter of the reference's forms takes. -/
def scon (c : Nat) (l : List UInt8) : Option Nat :=
  if c = 110 then (if nm l = 0 then none else some (nm l)) else if c = 98 then (if l = [] then none else some 1) else if c = 116 then (if tx l = 0 then none else some (tx l))
  else if c = 115 then (if runs l.length l = 0 then none else some (runs l.length l))
  else if c = 99 then (if tx l < 2 ∨ 16 < tx l then none else if ((l.take (tx l)).drop 1).all alnum then some l.length else none)
  else if c = 109 then (if (tmap (-1) l).isSome then some l.length else none) else if c = 42 then some l.length else none
def spg : List UInt8 → List UInt8 → Bool
  | [], l => l.isEmpty
  | c :: r, l => match scon c.toNat l with | none => false | some n => spg r (l.drop n)
def sletters (l : List UInt8) : Prop := ∀ c ∈ l, c.toNat ∈ [110, 98, 116, 115, 99, 109, 42]
theorem spec_l02Parts_pre (K : Nat) (hK : 450000000 ≤ K) (c : UInt8) (hc : c.toNat ∈ [110, 98, 116, 115, 99, 109, 42]) (d : ByteArray) (hd : d.size ≤ 65535) :
    ∃ o, spec_l02Parts.pre K (c.toNat : Int) d = some o ∧ (match o with
      | none => scon c.toNat (L d) = none
      | some p => p.size ≤ d.size ∧ L p = (L d).take p.size ∧ scon c.toNat (L d) = if p.size = 0 ∧ (c.toNat : Int) ≠ 109 ∧ (c.toNat : Int) ≠ 42 then none else some p.size) := by
  have hs := size_L d
  generalize hl : L d = l at *
  have h1 := nm_le l
  have h2 := tx_le l
  have hts : ∀ n, n ≤ l.length → (B (l.take n)).size = n := fun n hn => by rw [size_L, L_B, List.length_take]; omega
  simp only [List.mem_cons, List.not_mem_nil, or_false] at hc
  rcases hc with h | h | h | h | h | h | h <;> rw [h]
  · have e1 : spec_l02Parts.pre K ((110 : Nat) : Int) d = (spec_l02NameAt.f K d).bind fun p => some (some p) := by unfold spec_l02Parts.pre; simp
    have e2 : scon 110 l = if nm l = 0 then none else some (nm l) := by unfold scon; simp
    rw [e1, e2, spec_l02NameAt_eq d (by omega) K (by omega), Option.bind_some, hl]
    refine ⟨_, rfl, by rw [hts _ h1]; omega, by rw [L_B, hts _ h1], ?_⟩
    rw [hts _ h1]
    by_cases h0 : nm l = 0
    · rw [if_pos h0, if_pos ⟨h0, by decide, by decide⟩]
    · rw [if_neg h0, if_neg (fun e => h0 e.1)]
  · have e1 : spec_l02Parts.pre K ((98 : Nat) : Int) d = some (some (if d.size = 0 then ⟨#[]⟩ else d.extract 0 1)) := by unfold spec_l02Parts.pre; simp
    have e2 : scon 98 l = if l = [] then none else some 1 := by unfold scon; simp
    rw [e1, e2]
    by_cases h0 : d.size = 0
    · have h3 : l = [] := List.eq_nil_of_length_eq_zero (by omega)
      rw [if_pos h0, if_pos h3]
      exact ⟨_, rfl, by show (0 : Nat) ≤ _; omega, rfl, by rw [if_pos ⟨rfl, by decide, by decide⟩]⟩
    · have h3 : ¬ l = [] := fun e => h0 (by rw [e] at hs; exact hs)
      have h4 : (d.extract 0 1).size = 1 := by rw [ByteArray.size_extract]; omega
      rw [if_neg h0, if_neg h3]
      exact ⟨_, rfl, by rw [h4]; omega, by rw [L_extract, hl, h4]; rfl, by rw [h4, if_neg (fun e => absurd e.1 (by decide))]⟩
  · have e1 : spec_l02Parts.pre K ((116 : Nat) : Int) d = (spec_l02Text.f d).bind fun p => some (some p) := by unfold spec_l02Parts.pre; simp
    have e2 : scon 116 l = if tx l = 0 then none else some (tx l) := by unfold scon; simp
    rw [e1, e2, spec_l02Text_eq d (by omega), Option.bind_some, hl]
    refine ⟨_, rfl, by rw [hts _ h2]; omega, by rw [L_B, hts _ h2], ?_⟩
    rw [hts _ h2]
    by_cases h0 : tx l = 0
    · rw [if_pos h0, if_pos ⟨h0, by decide, by decide⟩]
    · rw [if_neg h0, if_neg (fun e => h0 e.1)]
  · have e1 : spec_l02Parts.pre K ((115 : Nat) : Int) d = (spec_l02Parts.run K d ⟨#[]⟩).bind fun p => some (some p) := by unfold spec_l02Parts.pre; simp
    have e2 : scon 115 l = if runs l.length l = 0 then none else some (runs l.length l) := by unfold scon; simp
    have h3 := runs_le l.length l
    rw [e1, e2, spec_l02Parts_run d hd l.length K ⟨#[]⟩ 0 rfl (Nat.zero_le _) (by omega) (by omega), Option.bind_some, hl, List.drop_zero, Nat.zero_add]
    refine ⟨_, rfl, by rw [hts _ h3]; omega, by rw [L_B, hts _ h3], ?_⟩
    rw [hts _ h3]
    by_cases h0 : runs l.length l = 0
    · rw [if_pos h0, if_pos ⟨h0, by decide, by decide⟩]
    · rw [if_neg h0, if_neg (fun e => h0 e.1)]
  · have e1 : spec_l02Parts.pre K ((99 : Nat) : Int) d = (spec_l02Text.f d).bind fun p => if p.size < 2 then some none else if 16 < p.size then some none else (spec_l02Parts.tag K ((bytesOf p).drop 1)).bind fun b => some (if b = true then some d else none) := by unfold spec_l02Parts.pre; simp
    have e2 : scon 99 l = if tx l < 2 ∨ 16 < tx l then none else if ((l.take (tx l)).drop 1).all alnum then some l.length else none := by unfold scon; simp
    rw [e1, e2, spec_l02Text_eq d (by omega), Option.bind_some, hl, hts _ h2]
    by_cases g1 : tx l < 2
    · exact ⟨none, by rw [if_pos g1], by rw [if_pos (.inl g1)]⟩
    · by_cases g2 : 16 < tx l
      · exact ⟨none, by rw [if_neg g1, if_pos g2], by rw [if_pos (.inr g2)]⟩
      · have h4 : (bytesOf (B (l.take (tx l)))).drop 1 = ((l.take (tx l)).drop 1).map fun c => (c.toNat : Int) := by
          have h5 : bytesOf (B (l.take (tx l))) = (L (B (l.take (tx l)))).map fun c => (c.toNat : Int) := rfl
          rw [h5, L_B, List.map_drop]
        rw [if_neg g1, if_neg g2, if_neg (show ¬ (tx l < 2 ∨ 16 < tx l) by omega), h4, spec_l02Parts_tag, Option.bind_some]
        by_cases g3 : ((l.take (tx l)).drop 1).all alnum = true
        · rw [if_pos g3, if_pos g3]
          exact ⟨_, rfl, Nat.le_refl _, by rw [hl, hs, List.take_length], by rw [if_neg (fun e => by have := e.1; omega), hs]⟩
        · rw [if_neg g3, if_neg g3]
          exact ⟨none, rfl, rfl⟩
  · have e1 : spec_l02Parts.pre K ((109 : Nat) : Int) d = (spec_l02Map.f K d).bind fun b => some (if b = true then some d else none) := by unfold spec_l02Parts.pre; simp
    have e2 : scon 109 l = if (tmap (-1) l).isSome then some l.length else none := by unfold scon; simp
    rw [e1, e2, spec_l02Map_eq d K (by omega), Option.bind_some, hl]
    cases tmap (-1) l with
    | none => exact ⟨none, rfl, rfl⟩
    | some ts => exact ⟨some d, rfl, Nat.le_refl _, by rw [hl, hs, List.take_length], by rw [if_pos (show (some ts).isSome = true from rfl), hs, if_neg (fun e => e.2.1 rfl)]⟩
  · have e1 : spec_l02Parts.pre K ((42 : Nat) : Int) d = some (some d) := by unfold spec_l02Parts.pre; simp
    have e2 : scon 42 l = some l.length := by unfold scon; simp
    rw [e1, e2]
    exact ⟨_, rfl, Nat.le_refl _, by rw [hl, hs, List.take_length], by rw [if_neg (fun e => e.2.2 rfl), hs]⟩
/-- The parts of data, by the reference's forms. -/
def sparts : List UInt8 → List UInt8 → List (List UInt8)
  | [], _ => []
  | c :: r, l => match scon c.toNat l with | none => [] | some n => l.take n :: sparts r (l.drop n)
theorem sparts_length : ∀ (r l : List UInt8), spg r l = true → (sparts r l).length = r.length := by
  intro r
  induction r with
  | nil => intro l _; rfl
  | cons c r ih =>
    intro l h
    rw [spg] at h
    rw [sparts]
    cases hc : scon c.toNat l with
    | none => rw [hc] at h; cases h
    | some n =>
      rw [hc] at h
      simp only at h ⊢
      rw [List.length_cons, List.length_cons, ih _ h]
/-- The stretches that the names take, by the reference's forms. -/
def ssp : List UInt8 → Nat → List UInt8 → List (Nat × Nat)
  | [], _, _ => []
  | c :: r, p, l => match scon c.toNat l with
    | none => []
    | some n => (if c.toNat = 110 then [(p, p + n)] else []) ++ ssp r (p + n) (l.drop n)
theorem spec_l02Parts_go (K : Nat) (hK : 450000000 ≤ K) : ∀ (r : List UInt8) (d : ByteArray) (out : List ByteArray), sletters r → d.size ≤ 65535 → out.length + r.length ≤ 1000 → ∃ out', spec_l02Parts.go K r d out = some (out', spg r (L d)) ∧ (spg r (L d) = true → out' = out ++ (sparts r (L d)).map B) := by
  intro r
  induction r with
  | nil =>
    intro d out _ _ _
    exact ⟨out, by rw [spec_l02Parts.go, spg, toL], fun _ => by simp [sparts]⟩
  | cons c r ih =>
    intro d out hr hd ho
    obtain ⟨o, h1, h2⟩ := spec_l02Parts_pre K hK c (hr c (by simp)) d hd
    simp only [List.length_cons] at ho
    rw [spec_l02Parts.go, h1, Option.bind_some, spg, sparts]
    cases o with
    | none =>
      simp only at h2
      rw [h2]
      exact ⟨[], rfl, fun e => by cases e⟩
    | some p =>
      simp only at h2
      obtain ⟨h3, hp, h4⟩ := h2
      rw [h4]
      simp only
      by_cases h5 : p.size = 0 ∧ (c.toNat : Int) ≠ 109 ∧ (c.toNat : Int) ≠ 42
      · rw [if_pos h5, if_pos h5]
        exact ⟨[], rfl, fun e => by cases e⟩
      · rw [if_neg h5, if_neg h5, if_neg (by omega), if_neg (by omega)]
        have hx : L (d.extract p.size d.size) = (L d).drop p.size := by rw [L_extract, List.take_of_length_le (by rw [List.length_drop, ← size_L]; exact Nat.le_refl _)]
        obtain ⟨out', h6, h7⟩ := ih (d.extract p.size d.size) (out ++ [p]) (fun x hx => hr x (by simp [hx])) (by rw [size_L, hx, List.length_drop, ← size_L]; omega) (by simp; omega)
        refine ⟨out', by rw [h6, hx], fun e => ?_⟩
        rw [hx] at h7
        rw [h7 e, List.append_assoc]
        simp only [List.map_cons, List.singleton_append]
        congr 2
        apply L_inj
        rw [L_B]
        exact hp
theorem exact_runs : ∀ (d : Nat) (l : List UInt8), l.length ≤ d → (exact d l = true ↔ runs d l = l.length) := by
  intro d
  induction d with
  | zero =>
    intro l h
    obtain rfl : l = [] := List.eq_nil_of_length_eq_zero (by omega)
    exact ⟨fun _ => rfl, fun _ => rfl⟩
  | succ d ih =>
    intro l h
    cases l with
    | nil => exact ⟨fun _ => by rw [runs, if_pos (by rfl)]; rfl, fun _ => rfl⟩
    | cons c r =>
      simp only [List.length_cons] at h
      rw [exact, runs, tx]
      by_cases h1 : r.length < c.toNat
      · rw [if_pos h1, if_pos h1, if_pos rfl]
        simp
      · rw [if_neg h1, if_neg h1, if_neg (by omega), List.drop_succ_cons, ih (r.drop c.toNat) (by rw [List.length_drop]; omega), List.length_drop, List.length_cons]
        omega
theorem pg_nil (l : List UInt8) : pg [] l = l.isEmpty := rfl
theorem spg_nil (l : List UInt8) : spg [] l = l.isEmpty := rfl
theorem pg_1 (r l : List UInt8) : pg (49 :: r) l = if l.length < 1 then false else pg r (l.drop 1) := by
  rw [pg]; show (match (if l.length < 1 then none else some 1) with | none => false | some n => pg r (l.drop n)) = _
  cases l <;> simp
theorem pg_2 (r l : List UInt8) : pg (50 :: r) l = if l.length < 2 then false else pg r (l.drop 2) := by
  rw [pg]; show (match (if l.length < 2 then none else some 2) with | none => false | some n => pg r (l.drop n)) = _; split <;> rename_i h <;> split at h <;> simp_all
theorem pg_4 (r l : List UInt8) : pg (52 :: r) l = if l.length < 4 then false else pg r (l.drop 4) := by
  rw [pg]; show (match (if l.length < 4 then none else some 4) with | none => false | some n => pg r (l.drop n)) = _; split <;> rename_i h <;> split at h <;> simp_all
theorem pg_g (r l : List UInt8) : pg (103 :: r) l = if l.length < 4 then false else pg r (l.drop 4) := by
  rw [pg]; show (match (if l.length < 4 then none else some 4) with | none => false | some n => pg r (l.drop n)) = _; split <;> rename_i h <;> split at h <;> simp_all
theorem pg_q (r l : List UInt8) : pg (113 :: r) l = if l.length < 4 then false else pg r (l.drop 4) := by
  rw [pg]; show (match (if l.length < 4 then none else some 4) with | none => false | some n => pg r (l.drop n)) = _; split <;> rename_i h <;> split at h <;> simp_all
theorem pg_n (r l : List UInt8) : pg (110 :: r) l = if nm l = 0 then false else pg r (l.drop (nm l)) := by
  rw [pg]; show (match (if nm l = 0 then none else some (nm l)) with | none => false | some n => pg r (l.drop n)) = _; split <;> rename_i h <;> split at h <;> simp_all
theorem pg_t (r l : List UInt8) : pg (116 :: r) l = if tx l = 0 then false else pg r (l.drop (tx l)) := by
  rw [pg]; show (match (if tx l = 0 then none else some (tx l)) with | none => false | some n => pg r (l.drop n)) = _; split <;> rename_i h <;> split at h <;> simp_all
theorem spg_n (r l : List UInt8) : spg (110 :: r) l = if nm l = 0 then false else spg r (l.drop (nm l)) := by
  rw [spg]; show (match (if nm l = 0 then none else some (nm l)) with | none => false | some n => spg r (l.drop n)) = _; split <;> rename_i h <;> split at h <;> simp_all
theorem spg_t (r l : List UInt8) : spg (116 :: r) l = if tx l = 0 then false else spg r (l.drop (tx l)) := by
  rw [spg]; show (match (if tx l = 0 then none else some (tx l)) with | none => false | some n => spg r (l.drop n)) = _; split <;> rename_i h <;> split at h <;> simp_all
theorem spg_b (r l : List UInt8) : spg (98 :: r) l = if l.length < 1 then false else spg r (l.drop 1) := by
  rw [spg]; show (match (if l = [] then none else some 1) with | none => false | some n => spg r (l.drop n)) = _
  cases l <;> simp
theorem spg_bb (r l : List UInt8) : spg (98 :: 98 :: r) l = if l.length < 2 then false else spg r (l.drop 2) := by
  rw [spg_b, spg_b, List.length_drop, List.drop_drop]
  by_cases h : l.length < 2
  · rw [if_pos h]
    split
    · rfl
    · rw [if_pos (by omega)]
  · rw [if_neg h, if_neg (by omega), if_neg (by omega)]
theorem spg_b4 (r l : List UInt8) : spg (98 :: 98 :: 98 :: 98 :: r) l = if l.length < 4 then false else spg r (l.drop 4) := by
  rw [spg_bb, spg_bb, List.length_drop, List.drop_drop]
  by_cases h : l.length < 4
  · rw [if_pos h]
    split
    · rfl
    · rw [if_pos (by omega)]
  · rw [if_neg h, if_neg (by omega), if_neg (by omega)]

end Go.Proofs.YtpnbhblmfglkcaaDoor.Pure
namespace Go.Proofs.YtpnbhblmfglkcaaDoor.Pure
open Go.RowKit Go.Proofs.YtpnbhblmfglkcaaDoor.F Go.Proofs.YtpnbhblmfglkcaaDoor.Base Go.Proofs.YtpnbhblmfglkcaaDoorW.PrintWords Go.Proofs.YtpnbhblmfglkcaaDoorW.PrintLast Go.Proofs.YtpnbhblmfglkcaaDoorW.PrintMore
set_option linter.unusedVariables false
set_option linter.unusedSimpArgs false
-- base: BaseForm
theorem forms_T (l : List UInt8) : pg [84] l = spg [115] l := by
  have e1 : con 84 l = if l = [] then none else if exact l.length l then some l.length else none := by unfold con; simp
  have e2 : scon 115 l = if runs l.length l = 0 then none else some (runs l.length l) := by unfold scon; simp
  have h := exact_runs l.length l (Nat.le_refl _)
  have h2 := runs_le l.length l
  rw [pg, spg]
  show (match con 84 l with | none => false | some n => pg [] (l.drop n)) = (match scon 115 l with | none => false | some n => spg [] (l.drop n))
  rw [e1, e2]
  by_cases hn : l = []
  · subst hn; rfl
  · have h0 : l.length ≠ 0 := fun e => hn (List.eq_nil_of_length_eq_zero e)
    rw [if_neg hn]
    by_cases hx : exact l.length l = true
    · have h3 := h.1 hx
      rw [if_pos hx, if_neg (by omega), h3]
      rfl
    · have h3 : runs l.length l ≠ l.length := fun e => hx (h.2 e)
      rw [if_neg hx]
      by_cases h4 : runs l.length l = 0
      · rw [if_pos h4]
      · rw [if_neg h4]
        show false = (l.drop (runs l.length l)).isEmpty
        symm
        rw [Bool.eq_false_iff]
        intro e
        rw [List.isEmpty_iff, List.drop_eq_nil_iff] at e
        omega
theorem forms_c (l : List UInt8) : pg [99, 42] l = spg [99] l := by
  have e1 : con 99 l = if tx l < 2 ∨ 16 < tx l then none else if ((l.take (tx l)).drop 1).all alnum then some (tx l) else none := by unfold con; simp
  have e2 : scon 99 l = if tx l < 2 ∨ 16 < tx l then none else if ((l.take (tx l)).drop 1).all alnum then some l.length else none := by unfold scon; simp
  have e3 : ∀ x : List UInt8, pg [42] x = true := fun x => by
    have : con 42 x = some x.length := by unfold con; simp
    rw [pg]
    show (match con 42 x with | none => false | some n => pg [] (x.drop n)) = true
    rw [this]
    simp [pg]
  rw [pg, spg]
  show (match con 99 l with | none => false | some n => pg [42] (l.drop n)) = (match scon 99 l with | none => false | some n => spg [] (l.drop n))
  rw [e1, e2]
  by_cases h1 : tx l < 2 ∨ 16 < tx l
  · rw [if_pos h1, if_pos h1]
  · rw [if_neg h1, if_neg h1]
    by_cases h2 : ((l.take (tx l)).drop 1).all alnum = true
    · rw [if_pos h2, if_pos h2]
      simp [e3, spg]
    · rw [if_neg h2, if_neg h2]
theorem forms_m (l : List UInt8) : pg [109] l = spg [109] l := by
  have e1 : con 109 l = if (tmap (-1) l).isSome then some l.length else none := by unfold con; simp
  have e2 : scon 109 l = if (tmap (-1) l).isSome then some l.length else none := by unfold scon; simp
  rw [pg, spg]
  show (match con 109 l with | none => false | some n => pg [] (l.drop n)) = (match scon 109 l with | none => false | some n => spg [] (l.drop n))
  rw [e1, e2]
  rfl
theorem forms_star (l : List UInt8) : spg [42] l = true := by
  have : scon 42 l = some l.length := by unfold scon; simp
  rw [spg]
  show (match scon 42 l with | none => false | some n => spg [] (l.drop n)) = true
  rw [this]
  simp [spg]
/-- The two forms of a type tell the same data. -/
theorem forms_same (t : Int) (l : List UInt8) : (match formOf t with | none => true | some f => pg f.data.toList l) = spg (sform t) l := by
  by_cases c1 : t = 1
  · subst c1; show pg [52] l = spg [98, 98, 98, 98] l; rw [pg_4, spg_b4]; rfl
  by_cases c2 : t = 2
  · subst c2; show pg [110] l = spg [110] l; rw [pg_n, spg_n]; rfl
  by_cases c5 : t = 5
  · subst c5; show pg [110] l = spg [110] l; rw [pg_n, spg_n]; rfl
  by_cases c6 : t = 6
  · subst c6; show pg [110, 110, 103, 103, 103, 103, 113] l = spg [110, 110, 98, 98, 98, 98, 98, 98, 98, 98, 98, 98, 98, 98, 98, 98, 98, 98, 98, 98, 98, 98] l; rw [pg_n, pg_n, pg_g, pg_g, pg_g, pg_g, pg_q, spg_n, spg_n, spg_b4, spg_b4, spg_b4, spg_b4, spg_b4]; rfl
  by_cases c12 : t = 12
  · subst c12; show pg [110] l = spg [110] l; rw [pg_n, spg_n]; rfl
  by_cases c13 : t = 13
  · subst c13; show pg [116, 116] l = spg [116, 116] l; rw [pg_t, pg_t, spg_t, spg_t]; rfl
  by_cases c15 : t = 15
  · subst c15; show pg [50, 110] l = spg [98, 98, 110] l; rw [pg_2, pg_n, spg_bb, spg_n]; rfl
  by_cases c16 : t = 16
  · subst c16; exact forms_T l
  by_cases c28 : t = 28
  · subst c28; show pg [103, 103, 103, 103] l = spg [98, 98, 98, 98, 98, 98, 98, 98, 98, 98, 98, 98, 98, 98, 98, 98] l; rw [pg_g, pg_g, pg_g, pg_g, spg_b4, spg_b4, spg_b4, spg_b4]; rfl
  by_cases c33 : t = 33
  · subst c33; show pg [50, 50, 50, 110] l = spg [98, 98, 98, 98, 98, 98, 110] l; rw [pg_2, pg_2, pg_2, pg_n, spg_bb, spg_bb, spg_bb, spg_n]; rfl
  by_cases c35 : t = 35
  · subst c35; show pg [50, 50, 116, 116, 116, 110] l = spg [98, 98, 98, 98, 116, 116, 116, 110] l; rw [pg_2, pg_2, pg_t, pg_t, pg_t, pg_n, spg_bb, spg_bb, spg_t, spg_t, spg_t, spg_n]; rfl
  by_cases c39 : t = 39
  · subst c39; show pg [110] l = spg [110] l; rw [pg_n, spg_n]; rfl
  by_cases c47 : t = 47
  · subst c47; show pg [110, 109] l = spg [110, 109] l; rw [pg_n, spg_n, forms_m]
  by_cases c257 : t = 257
  · subst c257; show pg [49, 99, 42] l = spg [98, 99] l; rw [pg_1, spg_b, forms_c]
  have e1 : formOf t = none := by
    unfold formOf
    simp only [if_neg c1, if_neg c2, if_neg c5, if_neg c6, if_neg c12, if_neg c13, if_neg c15, if_neg c16, if_neg c28, if_neg c33, if_neg c35, if_neg c39, if_neg c47, if_neg c257]
  have e2 : sform t = [42] := by
    unfold sform
    rw [if_neg c1, if_neg (show ¬ (t = 2 ∨ t = 5 ∨ t = 12 ∨ t = 39) by omega)]
    simp only [if_neg c6, if_neg c13, if_neg c15, if_neg c16, if_neg c28, if_neg c33, if_neg c35, if_neg c47, if_neg c257]
  rw [e1, e2, forms_star]
theorem letters_of {t : Int} {f : ByteArray} (h : formOf t = some f) : letters f.data.toList := by
  unfold formOf at h
  by_cases c1 : t = 1
  · rw [if_pos c1] at h
    obtain rfl := Option.some.inj h
    unfold letters
    decide
  rw [if_neg c1] at h
  by_cases c2 : t = 2
  · rw [if_pos c2] at h
    obtain rfl := Option.some.inj h
    unfold letters
    decide
  rw [if_neg c2] at h
  by_cases c5 : t = 5
  · rw [if_pos c5] at h
    obtain rfl := Option.some.inj h
    unfold letters
    decide
  rw [if_neg c5] at h
  by_cases c6 : t = 6
  · rw [if_pos c6] at h
    obtain rfl := Option.some.inj h
    unfold letters
    decide
  rw [if_neg c6] at h
  by_cases c12 : t = 12
  · rw [if_pos c12] at h
    obtain rfl := Option.some.inj h
    unfold letters
    decide
  rw [if_neg c12] at h
  by_cases c13 : t = 13
  · rw [if_pos c13] at h
    obtain rfl := Option.some.inj h
    unfold letters
    decide
  rw [if_neg c13] at h
  by_cases c15 : t = 15
  · rw [if_pos c15] at h
    obtain rfl := Option.some.inj h
    unfold letters
    decide
  rw [if_neg c15] at h
  by_cases c16 : t = 16
  · rw [if_pos c16] at h
    obtain rfl := Option.some.inj h
    unfold letters
    decide
  rw [if_neg c16] at h
  by_cases c28 : t = 28
  · rw [if_pos c28] at h
    obtain rfl := Option.some.inj h
    unfold letters
    decide
  rw [if_neg c28] at h
  by_cases c33 : t = 33
  · rw [if_pos c33] at h
    obtain rfl := Option.some.inj h
    unfold letters
    decide
  rw [if_neg c33] at h
  by_cases c35 : t = 35
  · rw [if_pos c35] at h
    obtain rfl := Option.some.inj h
    unfold letters
    decide
  rw [if_neg c35] at h
  by_cases c39 : t = 39
  · rw [if_pos c39] at h
    obtain rfl := Option.some.inj h
    unfold letters
    decide
  rw [if_neg c39] at h
  by_cases c47 : t = 47
  · rw [if_pos c47] at h
    obtain rfl := Option.some.inj h
    unfold letters
    decide
  rw [if_neg c47] at h
  by_cases c257 : t = 257
  · rw [if_pos c257] at h
    obtain rfl := Option.some.inj h
    unfold letters
    decide
  rw [if_neg c257] at h
  cases h
theorem sletters_of (t : Int) : sletters (sform t) ∧ (sform t).length ≤ 100 := by
  unfold sform
  repeat' split
  all_goals exact ⟨by unfold sletters; decide, by decide⟩
theorem psp_no : ∀ (r : List UInt8) (p : Nat) (l : List UInt8), (∀ c ∈ r, c.toNat ≠ 110) → psp r p l = [] := by
  intro r
  induction r with
  | nil => intro p l _; rfl
  | cons c r ih =>
    intro p l h
    rw [psp]
    cases con c.toNat l with
    | none => rfl
    | some n =>
      simp only
      rw [if_neg (h c (by simp)), ih _ _ (fun x hx => h x (by simp [hx]))]
      rfl
theorem ssp_no : ∀ (r : List UInt8) (p : Nat) (l : List UInt8), (∀ c ∈ r, c.toNat ≠ 110) → ssp r p l = [] := by
  intro r
  induction r with
  | nil => intro p l _; rfl
  | cons c r ih =>
    intro p l h
    rw [ssp]
    cases scon c.toNat l with
    | none => rfl
    | some n =>
      simp only
      rw [if_neg (h c (by simp)), ih _ _ (fun x hx => h x (by simp [hx]))]
      rfl
theorem psp_n (r : List UInt8) (p : Nat) (l : List UInt8) : psp (110 :: r) p l = if nm l = 0 then [] else (p, p + nm l) :: psp r (p + nm l) (l.drop (nm l)) := by
  rw [psp]; show (match (if nm l = 0 then none else some (nm l)) with | none => [] | some n => (if (110 : Nat) = 110 then [(p, p + n)] else []) ++ psp r (p + n) (l.drop n)) = _
  by_cases h : nm l = 0
  · rw [if_pos h, if_pos h]
  · rw [if_neg h, if_neg h]; rfl
theorem ssp_n (r : List UInt8) (p : Nat) (l : List UInt8) : ssp (110 :: r) p l = if nm l = 0 then [] else (p, p + nm l) :: ssp r (p + nm l) (l.drop (nm l)) := by
  rw [ssp]; show (match (if nm l = 0 then none else some (nm l)) with | none => [] | some n => (if (110 : Nat) = 110 then [(p, p + n)] else []) ++ ssp r (p + n) (l.drop n)) = _
  by_cases h : nm l = 0
  · rw [if_pos h, if_pos h]
  · rw [if_neg h, if_neg h]; rfl
theorem psp_t (r : List UInt8) (p : Nat) (l : List UInt8) : psp (116 :: r) p l = if tx l = 0 then [] else psp r (p + tx l) (l.drop (tx l)) := by
  rw [psp]; show (match (if tx l = 0 then none else some (tx l)) with | none => [] | some n => (if (116 : Nat) = 110 then [(p, p + n)] else []) ++ psp r (p + n) (l.drop n)) = _
  by_cases h : tx l = 0
  · rw [if_pos h, if_pos h]
  · rw [if_neg h, if_neg h]; rfl
theorem ssp_t (r : List UInt8) (p : Nat) (l : List UInt8) : ssp (116 :: r) p l = if tx l = 0 then [] else ssp r (p + tx l) (l.drop (tx l)) := by
  rw [ssp]; show (match (if tx l = 0 then none else some (tx l)) with | none => [] | some n => (if (116 : Nat) = 110 then [(p, p + n)] else []) ++ ssp r (p + n) (l.drop n)) = _
  by_cases h : tx l = 0
  · rw [if_pos h, if_pos h]
  · rw [if_neg h, if_neg h]; rfl
theorem psp_2 (r : List UInt8) (p : Nat) (l : List UInt8) : psp (50 :: r) p l = if l.length < 2 then [] else psp r (p + 2) (l.drop 2) := by
  rw [psp]; show (match (if l.length < 2 then none else some 2) with | none => [] | some n => (if (50 : Nat) = 110 then [(p, p + n)] else []) ++ psp r (p + n) (l.drop n)) = _
  by_cases h : l.length < 2
  · rw [if_pos h, if_pos h]
  · rw [if_neg h, if_neg h]; rfl
theorem ssp_b (r : List UInt8) (p : Nat) (l : List UInt8) : ssp (98 :: r) p l = if l.length < 1 then [] else ssp r (p + 1) (l.drop 1) := by
  rw [ssp]; show (match (if l = [] then none else some 1) with | none => [] | some n => (if (98 : Nat) = 110 then [(p, p + n)] else []) ++ ssp r (p + n) (l.drop n)) = _
  cases l <;> simp
theorem ssp_bb (r : List UInt8) (p : Nat) (l : List UInt8) : ssp (98 :: 98 :: r) p l = if l.length < 2 then [] else ssp r (p + 2) (l.drop 2) := by
  rw [ssp_b, ssp_b, List.length_drop, List.drop_drop]
  by_cases h : l.length < 2
  · rw [if_pos h]
    split
    · rfl
    · rw [if_pos (by omega)]
  · rw [if_neg h, if_neg (by omega), if_neg (by omega)]
/-- The names stand at the same places by both forms of a type. -/
theorem spans_same (t : Int) (p : Nat) (l : List UInt8) : (match formOf t with | none => [] | some f => psp f.data.toList p l) = ssp (sform t) p l := by
  by_cases c1 : t = 1
  · subst c1; show psp [52] p l = ssp [98, 98, 98, 98] p l; rw [psp_no _ _ _ (by decide), ssp_no _ _ _ (by decide)]
  by_cases c2 : t = 2
  · subst c2; show psp [110] p l = ssp [110] p l; rw [psp_n, ssp_n]; rfl
  by_cases c5 : t = 5
  · subst c5; show psp [110] p l = ssp [110] p l; rw [psp_n, ssp_n]; rfl
  by_cases c6 : t = 6
  · subst c6; show psp [110, 110, 103, 103, 103, 103, 113] p l = ssp [110, 110, 98, 98, 98, 98, 98, 98, 98, 98, 98, 98, 98, 98, 98, 98, 98, 98, 98, 98, 98, 98] p l; rw [psp_n, psp_n, ssp_n, ssp_n, psp_no [103, 103, 103, 103, 113] _ _ (by decide), ssp_no [98, 98, 98, 98, 98, 98, 98, 98, 98, 98, 98, 98, 98, 98, 98, 98, 98, 98, 98, 98] _ _ (by decide)]
  by_cases c12 : t = 12
  · subst c12; show psp [110] p l = ssp [110] p l; rw [psp_n, ssp_n]; rfl
  by_cases c13 : t = 13
  · subst c13; show psp [116, 116] p l = ssp [116, 116] p l; rw [psp_no _ _ _ (by decide), ssp_no _ _ _ (by decide)]
  by_cases c15 : t = 15
  · subst c15; show psp [50, 110] p l = ssp [98, 98, 110] p l; rw [psp_2, psp_n, ssp_bb, ssp_n]; rfl
  by_cases c16 : t = 16
  · subst c16; show psp [84] p l = ssp [115] p l; rw [psp_no _ _ _ (by decide), ssp_no _ _ _ (by decide)]
  by_cases c28 : t = 28
  · subst c28; show psp [103, 103, 103, 103] p l = ssp [98, 98, 98, 98, 98, 98, 98, 98, 98, 98, 98, 98, 98, 98, 98, 98] p l; rw [psp_no _ _ _ (by decide), ssp_no _ _ _ (by decide)]
  by_cases c33 : t = 33
  · subst c33; show psp [50, 50, 50, 110] p l = ssp [98, 98, 98, 98, 98, 98, 110] p l; rw [psp_2, psp_2, psp_2, psp_n, ssp_bb, ssp_bb, ssp_bb, ssp_n]; rfl
  by_cases c35 : t = 35
  · subst c35; show psp [50, 50, 116, 116, 116, 110] p l = ssp [98, 98, 98, 98, 116, 116, 116, 110] p l; rw [psp_2, psp_2, psp_t, psp_t, psp_t, psp_n, ssp_bb, ssp_bb, ssp_t, ssp_t, ssp_t, ssp_n]; rfl
  by_cases c39 : t = 39
  · subst c39; show psp [110] p l = ssp [110] p l; rw [psp_n, ssp_n]; rfl
  by_cases c47 : t = 47
  · subst c47; show psp [110, 109] p l = ssp [110, 109] p l; rw [psp_n, ssp_n, psp_no [109] _ _ (by decide), ssp_no [109] _ _ (by decide)]
  by_cases c257 : t = 257
  · subst c257; show psp [49, 99, 42] p l = ssp [98, 99] p l; rw [psp_no _ _ _ (by decide), ssp_no _ _ _ (by decide)]
  have e1 : formOf t = none := by
    unfold formOf
    simp only [if_neg c1, if_neg c2, if_neg c5, if_neg c6, if_neg c12, if_neg c13, if_neg c15, if_neg c16, if_neg c28, if_neg c33, if_neg c35, if_neg c39, if_neg c47, if_neg c257]
  have e2 : sform t = [42] := by
    unfold sform
    rw [if_neg c1, if_neg (show ¬ (t = 2 ∨ t = 5 ∨ t = 12 ∨ t = 39) by omega)]
    simp only [if_neg c6, if_neg c13, if_neg c15, if_neg c16, if_neg c28, if_neg c33, if_neg c35, if_neg c47, if_neg c257]
  rw [e1, e2, ssp_no _ _ _ (by decide)]
/-- The stretches of names in data. -/
def nspans (t : Int) (l : List UInt8) : List (Nat × Nat) := ssp (sform t) 0 l
theorem impl_parsed_f (t : Int) (ht : (Lit.int .i64 t).wf = true) (s : ByteArray) (hs : s.size ≤ 65535) (K : Nat) (hK : 450000000 ≤ K) : ∃ sp, impl_parsed.f K t s = some (sp, spg (sform t) (L s)) ∧ (spg (sform t) (L s) = true → sp = (nspans t (L s)).map fun x => ⟨(x.1 : Int), (x.2 : Int)⟩) := by
  unfold impl_parsed.f
  rw [if_neg (by omega), if_pos ht, ← forms_same, nspans, ← spans_same]
  cases h : formOf t with
  | none => exact ⟨[], rfl, fun _ => rfl⟩
  | some f =>
    obtain ⟨sp, h1, h2⟩ := impl_parsed_go s hs K hK _ 0 [] (letters_of h) (Nat.zero_le _)
    exact ⟨sp, h1, h2⟩
theorem spec_parts_f (t : Int) (s : ByteArray) (hs : s.size ≤ 65535) (K : Nat) (hK : 450000000 ≤ K) : ∃ out, spec_l02Parts.f K (B (sform t)) s = some (out, spg (sform t) (L s)) ∧ (spg (sform t) (L s) = true → out = (sparts (sform t) (L s)).map B) := by
  obtain ⟨h1, h2⟩ := sletters_of t
  have h3 : (B (sform t)).data.toList = sform t := L_B _
  have h4 : (B (sform t)).size = (sform t).length := by rw [size_L, L_B]
  unfold spec_l02Parts.f
  rw [if_neg (by omega), h3]
  exact spec_l02Parts_go K hK _ s [] h1 hs (by simp; omega)
theorem CheckData_both (t : Int) (ht : (Lit.int .i64 t).wf = true) (s : ByteArray) (K : Nat) (hK : 450000001 ≤ K) : ∃ r, spec_CheckData.f K t s = some r ∧ impl_CheckData.f K t s = some r ∧ (r = 0 → spg (sform t) (L s) = true ∧ s.size ≤ 65535) := by
  obtain ⟨K, rfl⟩ : ∃ m, K = m + 1 := ⟨K - 1, by omega⟩
  have key : ∀ b : Bool, ∃ r, spec_CheckData.j0 (K + 1) t s b = some r ∧ impl_CheckData.j0 (K + 1) t s b = some r ∧ (r = 0 → spg (sform t) (L s) = true ∧ s.size ≤ 65535) := by
    intro b
    cases b with
    | true => exact ⟨6, by rw [spec_CheckData.j0, if_pos rfl], by rw [impl_CheckData.j0, if_pos rfl], fun e => by cases e⟩
    | false =>
      have hF : ¬ (false = true) := by decide
      by_cases h : (s.size : Int) > 65535
      · exact ⟨7, by rw [spec_CheckData.j0, if_neg hF, if_pos h], by rw [impl_CheckData.j0, if_neg hF, if_pos h], fun e => by cases e⟩
      · rw [show spec_CheckData.j0 (K + 1) t s false = _ from by rw [spec_CheckData.j0, if_neg hF, if_neg h], show impl_CheckData.j0 (K + 1) t s false = _ from by rw [impl_CheckData.j0, if_neg hF, if_neg h]]
        obtain ⟨out, e1, _⟩ := spec_parts_f t s (by omega) K (by omega)
        obtain ⟨sp, e2, _⟩ := impl_parsed_f t ht s (by omega) K (by omega)
        rw [spec_l02Form_eq t K (by omega), Option.bind_some, e1, e2, Option.bind_some, Option.bind_some]
        cases hp : spg (sform t) (L s)
        · exact ⟨7, rfl, rfl, fun e => by cases e⟩
        · exact ⟨0, rfl, rfl, fun _ => ⟨rfl, by omega⟩⟩
  unfold spec_CheckData.f impl_CheckData.f
  by_cases h : t < 0
  · rw [if_pos h, if_pos h]; exact key true
  · rw [if_neg h, if_neg h]; exact key _
theorem soa_long (l : List UInt8) (h : spg (sform 6) l = true) : 20 ≤ l.length := by
  have h' : spg [110, 110, 98, 98, 98, 98, 98, 98, 98, 98, 98, 98, 98, 98, 98, 98, 98, 98, 98, 98, 98, 98] l = true := h
  rw [spg_n] at h'
  split at h'
  · cases h'
  rw [spg_n] at h'
  split at h'
  · cases h'
  rw [spg_b4] at h'
  split at h'
  · cases h'
  rw [spg_b4] at h'
  split at h'
  · cases h'
  rw [spg_b4] at h'
  split at h'
  · cases h'
  rw [spg_b4] at h'
  split at h'
  · cases h'
  rw [spg_b4] at h'
  split at h'
  · cases h'
  simp only [List.length_drop] at *
  omega

end Go.Proofs.YtpnbhblmfglkcaaDoor.Pure
namespace Go.Proofs.YtpnbhblmfglkcaaDoor.Pure
open Go.RowKit Go.Proofs.YtpnbhblmfglkcaaDoor.F Go.Proofs.YtpnbhblmfglkcaaDoor.Base Go.Proofs.YtpnbhblmfglkcaaDoorW.PrintWords Go.Proofs.YtpnbhblmfglkcaaDoorW.PrintLast Go.Proofs.YtpnbhblmfglkcaaDoorW.PrintMore
set_option linter.unusedVariables false
set_option linter.unusedSimpArgs false
-- base: BaseName
theorem impl_fold_eq (a : ByteArray) (ha : a.size ≤ 140737488355328) : impl_fold.f a = some (foldB a) := by
  unfold impl_fold.f
  rw [if_pos ha]
  congr 1
  apply L_inj
  rw [L_strOfNums, L_foldB, bytesOf, List.map_map, List.map_map]
  apply List.map_congr_left
  intro c _
  simp only [Function.comp, low8]
  unfold low
  by_cases h : 65 ≤ c.toNat ∧ c.toNat ≤ 90
  · rw [if_pos (by omega), if_pos h, show ((c.toNat : Int) + 32).toNat = c.toNat + 32 from by omega]
  · rw [if_neg (by omega), if_neg h]
    simp

end Go.Proofs.YtpnbhblmfglkcaaDoor.Pure
namespace Go.Proofs.YtpnbhblmfglkcaaDoor.Pure
open Go.RowKit Go.Proofs.YtpnbhblmfglkcaaDoor.F Go.Proofs.YtpnbhblmfglkcaaDoor.Base Go.Proofs.YtpnbhblmfglkcaaDoorW.PrintWords Go.Proofs.YtpnbhblmfglkcaaDoorW.PrintLast Go.Proofs.YtpnbhblmfglkcaaDoorW.PrintMore
set_option linter.unusedVariables false
set_option linter.unusedSimpArgs false
-- base: BaseName
theorem impl_joined_eq (l : List ByteArray) (hb : (joinL l).length ≤ 1000000000) : impl_joined.f l = some (join l) := by
  have hll := joinL_len_ge l
  have e : joinB l = joinL l := rfl
  unfold impl_joined.f
  rw [e, if_pos (by omega)]
  rfl

end Go.Proofs.YtpnbhblmfglkcaaDoor.Pure
namespace Go.Proofs.YtpnbhblmfglkcaaDoor.Pure
open Go.RowKit Go.Proofs.YtpnbhblmfglkcaaDoor.F Go.Proofs.YtpnbhblmfglkcaaDoor.Base Go.Proofs.YtpnbhblmfglkcaaDoorW.PrintWords Go.Proofs.YtpnbhblmfglkcaaDoorW.PrintLast Go.Proofs.YtpnbhblmfglkcaaDoorW.PrintMore
set_option linter.unusedVariables false
set_option linter.unusedSimpArgs false
theorem impl_labelsOf_l0 (x : ByteArray) (hx255 : x.size ≤ 255) : ∀ (n k : Nat) (acc : List ByteArray) (p r : List UInt8), L x = p ++ r → r.length ≤ n → n < k → acc.length + r.length ≤ 300 → impl_labelsOf.l0 k x acc (p.length : Int) = some (res2 acc r) := by
  intro n
  induction n with
  | zero =>
    intro k acc p r hx hn hk hb
    obtain ⟨k, rfl⟩ : ∃ m, k = m + 1 := ⟨k - 1, by omega⟩
    obtain rfl : r = [] := List.length_eq_zero_iff.1 (by omega)
    have hs := size_L x
    rw [hx] at hs
    simp only [List.append_nil] at hs
    simp only [impl_labelsOf.l0]
    rw [if_neg (by omega)]
    simp [res2, labs, jk]
  | succ n ih =>
    intro k acc p r hx hn hk hb
    obtain ⟨k, rfl⟩ : ∃ m, k = m + 1 := ⟨k - 1, by omega⟩
    have hs := size_L x
    rw [hx] at hs
    simp only [impl_labelsOf.l0]
    cases r with
    | nil =>
      simp only [List.append_nil] at hs
      rw [if_neg (by omega)]
      simp [res2, labs, jk]
    | cons c r =>
      simp only [List.length_append, List.length_cons] at hs hn hb
      have hc := byte_le c
      rw [bt_mid hx rfl, if_pos (by omega), if_pos (by omega)]
      simp (maxSteps := 10000000) (disch := omega) only [w64]
      have hL := labs.eq_2 c r
      have hJ := jk.eq_2 acc c r
      unfold res2
      rw [hL, hJ]
      clear hL hJ
      by_cases h0 : c.toNat = 0
      · rw [if_pos (by omega), if_pos h0, if_pos h0]
        by_cases hr : r = []
        · rw [if_pos hr]
          subst hr
          simp at hs
          simp; omega
        · rw [if_neg hr]
          have : r.length ≠ 0 := fun h => hr (List.length_eq_zero_iff.1 h)
          simp; omega
      · rw [if_neg (by omega), if_neg h0, if_neg h0]
        by_cases h63 : 63 < c.toNat
        · rw [if_pos (by omega), if_pos h63, if_pos h63]
        · rw [if_neg (by omega), if_neg h63, if_neg h63]
          by_cases hl : r.length < c.toNat
          · rw [if_pos (by omega), if_pos hl, if_pos hl]
          · rw [if_neg (by omega), if_neg hl, if_neg hl, if_pos (by omega), if_pos (by omega), if_pos (by omega), if_pos (by omega)]
            have e0 : ((p.length : Int) + 1).toNat = p.length + 1 := by omega
            have e0' : ((p.length : Int) + 1 + (c.toNat : Int)).toNat = p.length + 1 + c.toNat := by omega
            rw [e0, e0']
            have e1 : x.extract (p.length + 1) (p.length + 1 + c.toNat) = B (r.take c.toNat) := L_inj (by
              rw [L_extract, hx, L_B, drop_len]
              simp)
            have e2 : (p.length : Int) + (1 + (c.toNat : Int)) = ((p ++ c :: r.take c.toNat).length : Int) := by
              simp [List.length_take]; omega
            rw [e1, e2, ih k _ (p ++ c :: r.take c.toNat) (r.drop c.toNat) (by rw [hx]; simp) (by simp; omega) (by omega) (by simp; omega)]
            unfold res2
            cases labs (List.drop c.toNat r) <;> simp
theorem impl_labelsOf_eq (a : ByteArray) (k : Nat) (hk : 400 ≤ k) : impl_labelsOf.f k a = some (match names (L a) with | none => ((impl_labelsOf.f 400 a).getD ([], false)) | some ls => (ls, true)) ∧ (names (L a) = none → ((impl_labelsOf.f 400 a).getD ([], false)).2 = false) := by
  have hs := size_L a
  have key : ∀ k, 400 ≤ k → impl_labelsOf.f k a = if 255 < (L a).length then some ([], false) else some (res2 [] (L a)) := by
    intro k hk
    unfold impl_labelsOf.f
    by_cases h2 : 255 < (L a).length
    · rw [if_pos (by omega), if_pos h2]
    · rw [if_neg (by omega), if_neg h2]
      exact impl_labelsOf_l0 a (by omega) (L a).length k [] [] (L a) rfl (Nat.le_refl _) (by omega) (by simp; omega)
  rw [key k hk, key 400 (Nat.le_refl _)]
  unfold names
  by_cases h1 : (L a).length < 1
  · have h0 : L a = [] := List.length_eq_zero_iff.1 (by omega)
    rw [if_neg (by omega), if_pos (by omega), h0]
    simp [res2, labs, jk]
  · by_cases h2 : 255 < (L a).length
    · rw [if_pos h2, if_pos (by omega)]; simp
    · rw [if_neg h2, if_neg (by omega)]
      unfold res2
      cases labs (L a) <;> simp
theorem impl_labelsOf_some {a : ByteArray} {ls : List ByteArray} (h : names (L a) = some ls) (k : Nat) (hk : 400 ≤ k) : impl_labelsOf.f k a = some (ls, true) := by
  have := (impl_labelsOf_eq a k hk).1
  rw [h] at this
  exact this
theorem impl_labelsOf_none {a : ByteArray} (h : names (L a) = none) (k : Nat) (hk : 400 ≤ k) : impl_labelsOf.f k a = some (((impl_labelsOf.f 400 a).getD ([], false)).1, false) := by
  obtain ⟨h1, h2⟩ := impl_labelsOf_eq a k hk
  rw [h] at h1
  rw [h1]
  exact congrArg some (Prod.ext rfl (h2 h))

end Go.Proofs.YtpnbhblmfglkcaaDoor.Pure
namespace Go.Proofs.YtpnbhblmfglkcaaDoor.Pure
open Go.RowKit Go.Proofs.YtpnbhblmfglkcaaDoor.F Go.Proofs.YtpnbhblmfglkcaaDoor.Base Go.Proofs.YtpnbhblmfglkcaaDoorW.PrintWords Go.Proofs.YtpnbhblmfglkcaaDoorW.PrintLast Go.Proofs.YtpnbhblmfglkcaaDoorW.PrintMore
set_option linter.unusedVariables false
set_option linter.unusedSimpArgs false
-- base: BaseName
theorem impl_IsUnder_eq (a b : ByteArray) (k : Nat) (hk : 1000 ≤ k) : impl_IsUnder.f k a b = some (underN a b) := by
  obtain ⟨k, rfl⟩ : ∃ m, k = m + 1 := ⟨k - 1, by omega⟩
  unfold impl_IsUnder.f underN
  cases ha : names (L a) with
  | none =>
    rw [impl_labelsOf_none ha _ (by omega)]
    cases hb : names (L b) with
    | none => rw [impl_labelsOf_none hb _ (by omega)]; simp [impl_IsUnder.j0]
    | some y => rw [impl_labelsOf_some hb _ (by omega)]; simp [impl_IsUnder.j0]
  | some x =>
    rw [impl_labelsOf_some ha _ (by omega)]
    cases hb : names (L b) with
    | none => rw [impl_labelsOf_none hb _ (by omega)]; simp [impl_IsUnder.j0]
    | some y =>
      rw [impl_labelsOf_some hb _ (by omega)]
      obtain ⟨gx, jx, lx⟩ := names_good ha
      obtain ⟨gy, jy, ly⟩ := names_good hb
      have hlx := joinL_len_ge x
      have hly := joinL_len_ge y
      simp only [Option.bind_some, if_true, impl_IsUnder.j0]
      unfold underL
      by_cases h : x.length < y.length
      · rw [if_pos (by simp; omega), decide_eq_false (by omega)]
      · have hd := joinL_len_drop x (x.length - y.length)
        have gd := gx.drop (x.length - y.length)
        have hsb : b.size ≤ 255 := by rw [← jy, size_join]; exact ly
        rw [if_neg (by simp; omega), w64 (by omega) (by omega), if_pos (by omega), if_pos (by omega), show ((x.length : Int) - (y.length : Int)).toNat = x.length - y.length by omega, impl_joined_eq _ (by omega)]
        simp only [Option.bind_some]
        rw [impl_fold_eq _ (by rw [size_join]; omega), impl_fold_eq b (by omega)]
        simp only [Option.bind_some, toL, Option.some.injEq]
        rw [← jy]
        by_cases hf : (x.drop (x.length - y.length)).map foldB = y.map foldB
        · rw [decide_eq_true ⟨by omega, hf⟩, beq_iff_eq, (foldB_join_iff gd gy).2 hf]
        · rw [decide_eq_false (fun h1 => hf h1.2), beq_eq_false_iff_ne]
          intro e
          exact hf ((foldB_join_iff gd gy).1 (L_inj e))

end Go.Proofs.YtpnbhblmfglkcaaDoor.Pure
namespace Go.Proofs.YtpnbhblmfglkcaaDoor.Pure
open Go.RowKit Go.Proofs.YtpnbhblmfglkcaaDoor.F Go.Proofs.YtpnbhblmfglkcaaDoor.Base Go.Proofs.YtpnbhblmfglkcaaDoorW.PrintWords Go.Proofs.YtpnbhblmfglkcaaDoorW.PrintLast Go.Proofs.YtpnbhblmfglkcaaDoorW.PrintMore
set_option linter.unusedVariables false
set_option linter.unusedSimpArgs false
theorem impl_NameOK_eq (a : ByteArray) (k : Nat) (hk : 400 ≤ k) : impl_NameOK.f k a = some (names (L a)).isSome := by
  unfold impl_NameOK.f
  cases h : names (L a) with
  | none => rw [impl_labelsOf_none h k hk]; simp
  | some ls => rw [impl_labelsOf_some h k hk]; simp

end Go.Proofs.YtpnbhblmfglkcaaDoor.Pure
namespace Go.Proofs.YtpnbhblmfglkcaaDoor.Pure
open Go.RowKit Go.Proofs.YtpnbhblmfglkcaaDoor.F Go.Proofs.YtpnbhblmfglkcaaDoor.Base Go.Proofs.YtpnbhblmfglkcaaDoorW.PrintWords Go.Proofs.YtpnbhblmfglkcaaDoorW.PrintLast Go.Proofs.YtpnbhblmfglkcaaDoorW.PrintMore
set_option linter.unusedVariables false
set_option linter.unusedSimpArgs false
theorem spec_l01Split_l0 : ∀ (n k : Nat) (acc : List ByteArray) (x : ByteArray), x.size ≤ n → n < k → acc.length + x.size ≤ 300 → spec_l01Split.l0 k acc x = some (res acc (labs (L x))) := by
  intro n
  induction n with
  | zero =>
    intro k acc x hn hk hb
    obtain ⟨k, rfl⟩ : ∃ m, k = m + 1 := ⟨k - 1, by omega⟩
    have hs := size_L x
    have hx : L x = [] := List.length_eq_zero_iff.1 (by omega)
    simp only [spec_l01Split.l0, toL]
    rw [if_pos hx, hx]
    simp [labs, res]
  | succ n ih =>
    intro k acc x hn hk hb
    obtain ⟨k, rfl⟩ : ∃ m, k = m + 1 := ⟨k - 1, by omega⟩
    have hs := size_L x
    simp only [spec_l01Split.l0, toL]
    cases hx : L x with
    | nil => rw [if_pos rfl]; simp [labs, res]
    | cons c r =>
      rw [hx] at hs
      simp only [List.length_cons] at hs
      have hc := byte_le c
      rw [bt_cons hx, if_neg (by simp), if_pos (by omega)]
      simp (maxSteps := 10000000) (disch := omega) only [w64]
      rw [labs]
      by_cases h0 : c.toNat = 0
      · rw [if_pos (by omega), if_pos h0]
        by_cases hr : r = []
        · rw [if_pos (by subst hr; simp at hs; omega), if_pos hr]; simp [res]
        · rw [if_neg (by intro h; exact hr (List.length_eq_zero_iff.1 (by omega))), if_neg hr]; simp [res]
      · rw [if_neg (by omega), if_neg h0]
        by_cases h63 : 63 < c.toNat
        · rw [if_pos (by omega), if_pos h63]; simp [res]
        · rw [if_neg (by omega), if_neg h63]
          by_cases hl : r.length < c.toNat
          · rw [if_pos (by omega), if_pos hl]; simp [res]
          · rw [if_neg (by omega), if_neg hl, if_pos (by omega), if_pos (by omega), if_pos (by omega), if_pos (by omega)]
            have e0 : ((c.toNat : Int) + 1).toNat = c.toNat + 1 := by omega
            rw [e0]
            have e1 : x.extract 1 (c.toNat + 1) = B (r.take c.toNat) := L_inj (by rw [L_extract, hx, L_B]; simp)
            have e2 : L (x.extract (c.toNat + 1) x.size) = r.drop c.toNat := by rw [L_extract, hx, hs]; simp [List.take_of_length_le]
            have e3 : (x.extract (c.toNat + 1) x.size).size = r.length - c.toNat := by rw [size_L, e2]; simp
            rw [ih k _ _ (by omega) (by omega) (by simp; omega), e1, e2, res_map]
theorem spec_l01Split_eq (a : ByteArray) (k : Nat) (hk : 400 ≤ k) : spec_l01Split.f k a = some (res [] (names (L a))) := by
  obtain ⟨k, rfl⟩ : ∃ m, k = m + 1 := ⟨k - 1, by omega⟩
  have hs := size_L a
  unfold spec_l01Split.f names
  simp only [Option.bind_some, spec_l01Split.j0]
  by_cases h1 : (L a).length < 1
  · rw [if_pos (by omega), if_pos trivial, if_pos (by omega)]; simp [res]
  · rw [if_neg (by omega)]
    by_cases h2 : 255 < (L a).length
    · rw [if_pos (by simp; omega), if_pos (by omega)]; simp [res]
    · rw [if_neg (by simp; omega), if_neg (by omega)]
      exact spec_l01Split_l0 a.size k [] a (Nat.le_refl _) (by omega) (by simp; omega)

end Go.Proofs.YtpnbhblmfglkcaaDoor.Pure
namespace Go.Proofs.YtpnbhblmfglkcaaDoor.Pure
open Go.RowKit Go.Proofs.YtpnbhblmfglkcaaDoor.F Go.Proofs.YtpnbhblmfglkcaaDoor.Base Go.Proofs.YtpnbhblmfglkcaaDoorW.PrintWords Go.Proofs.YtpnbhblmfglkcaaDoorW.PrintLast Go.Proofs.YtpnbhblmfglkcaaDoorW.PrintMore
set_option linter.unusedVariables false
set_option linter.unusedSimpArgs false
theorem spec_NameOK_eq (a : ByteArray) (k : Nat) (hk : 400 ≤ k) : spec_NameOK.f k a = some (names (L a)).isSome := by
  unfold spec_NameOK.f
  rw [spec_l01Split_eq a k hk]
  cases names (L a) <;> simp [res]

end Go.Proofs.YtpnbhblmfglkcaaDoor.Pure
namespace Go.Proofs.YtpnbhblmfglkcaaDoor.Pure
open Go.RowKit Go.Proofs.YtpnbhblmfglkcaaDoor.F Go.Proofs.YtpnbhblmfglkcaaDoor.Base Go.Proofs.YtpnbhblmfglkcaaDoorW.PrintWords Go.Proofs.YtpnbhblmfglkcaaDoorW.PrintLast Go.Proofs.YtpnbhblmfglkcaaDoorW.PrintMore
set_option linter.unusedVariables false
set_option linter.unusedSimpArgs false
-- base: BaseName
/-- A record of a valid message: both tests answer alike. -/
theorem recordOk_both (r : S50) (ht : (Lit.int .i64 r.f1).wf = true) (K : Nat) (hK : 450000001 ≤ K) : ∃ b, spec_l04Sound.f K r.f0 r.f1 r.f2 r.f3 r.f4 = some b ∧ impl_recordOk.f K r.f0 r.f1 r.f2 r.f3 r.f4 = some b := by
  obtain ⟨c, e1, e2, _⟩ := CheckData_both r.f1 ht r.f4 K hK
  have hin : ∀ (a b : Int), impl_within.f a 0 b = spec_l04In.f a b := fun a b => rfl
  have hv : ∀ a b : Int, ∃ c, spec_l04In.f a b = some c := by
    intro a b
    unfold spec_l04In.f
    split <;> exact ⟨_, rfl⟩
  obtain ⟨x1, h1⟩ := hv r.f1 65535
  obtain ⟨x2, h2⟩ := hv r.f2 65535
  obtain ⟨x3, h3⟩ := hv r.f3 4294967295
  unfold spec_l04Sound.f impl_recordOk.f
  rw [spec_NameOK_eq _ K (by omega), impl_NameOK_eq _ K (by omega), e1, e2]
  simp only [hin, h1, h2, h3, Option.bind_some]
  cases (names (L r.f0)).isSome with
  | false => exact ⟨false, rfl, rfl⟩
  | true =>
    cases x1 with
    | false => exact ⟨false, rfl, rfl⟩
    | true =>
      cases x2 with
      | false => exact ⟨false, rfl, rfl⟩
      | true =>
        cases x3 with
        | false => exact ⟨false, rfl, rfl⟩
        | true =>
          by_cases h4 : r.f4.toList = []
          · exact ⟨true, by simp only [if_true, if_pos h4], by simp only [if_true, if_pos h4]⟩
          · exact ⟨c == 0, by simp only [if_true, if_neg h4], by simp only [if_true, if_neg h4]⟩

end Go.Proofs.YtpnbhblmfglkcaaDoor.Pure
namespace Go.Proofs.YtpnbhblmfglkcaaDoor.Pure
open Go.RowKit Go.Proofs.YtpnbhblmfglkcaaDoor.F Go.Proofs.YtpnbhblmfglkcaaDoor.Base Go.Proofs.YtpnbhblmfglkcaaDoorW.PrintWords Go.Proofs.YtpnbhblmfglkcaaDoorW.PrintLast Go.Proofs.YtpnbhblmfglkcaaDoorW.PrintMore
set_option linter.unusedVariables false
set_option linter.unusedSimpArgs false
theorem laws_eqRR_refl (a : ByteArray) (b c d : Int) (e : ByteArray) : laws_eqRR.f a b c d e a b c d e = some true := by
  unfold laws_eqRR.f
  simp
theorem laws_eqRRS_l0 (l : List S50) (hl : l.length ≤ 4611686018427387904) : ∀ (d k : Nat) (i : Int), 0 ≤ i → i + d = l.length → d < k → laws_eqRRS.l0 k l l i = some true := by
  intro d
  induction d with
  | zero =>
    intro k i h0 h1 hk
    obtain ⟨k, rfl⟩ : ∃ m, k = m + 1 := ⟨k - 1, by omega⟩
    simp only [laws_eqRRS.l0]
    rw [if_neg (by omega)]
  | succ d ih =>
    intro k i h0 h1 hk
    obtain ⟨k, rfl⟩ : ∃ m, k = m + 1 := ⟨k - 1, by omega⟩
    simp only [laws_eqRRS.l0]
    rw [if_pos (by omega), if_pos h0, if_pos (by omega), laws_eqRR_refl, Option.bind_some, if_pos rfl, w64 (by omega) (by omega)]
    exact ih k (i + 1) (by omega) (by omega) (by omega)
theorem laws_eqRRS_refl (l : List S50) (hl : l.length ≤ 4611686018427387904) (k : Nat) (hk : l.length < k) : laws_eqRRS.f k l l = some true := by
  unfold laws_eqRRS.f
  rw [if_pos rfl]
  exact laws_eqRRS_l0 l hl l.length k 0 (by omega) (by omega) hk

end Go.Proofs.YtpnbhblmfglkcaaDoor.Pure
namespace Go.Proofs.YtpnbhblmfglkcaaDoor.Pure
open Go.RowKit Go.Proofs.YtpnbhblmfglkcaaDoor.F Go.Proofs.YtpnbhblmfglkcaaDoor.Base Go.Proofs.YtpnbhblmfglkcaaDoorW.PrintWords Go.Proofs.YtpnbhblmfglkcaaDoorW.PrintLast Go.Proofs.YtpnbhblmfglkcaaDoorW.PrintMore
set_option linter.unusedVariables false
set_option linter.unusedSimpArgs false
theorem laws_szRR_eq (s : ByteArray) (a b c : Int) (d : ByteArray) (x : Int) (h0 : 0 ≤ x) (h1 : x ≤ 1048576) (hs : s.size ≤ 9223372036854775807) (hd : d.size ≤ 9223372036854775807) : ∃ r, laws_szRR.f s a b c d x = some r ∧ r ≤ 1048576 ∧ (0 ≤ r → s.size ≤ 1048576 ∧ d.size ≤ 1048576) := by
  unfold laws_szRR.f
  rw [w64 (x := x - (s.size : Int)) (by omega) (by omega)]
  by_cases g1 : x - (s.size : Int) < 0
  · rw [if_pos g1]
    exact ⟨_, rfl, by omega, fun h => absurd h (by omega)⟩
  · rw [if_neg g1, w64 (x := x - (s.size : Int) - (d.size : Int)) (by omega) (by omega)]
    by_cases g2 : x - (s.size : Int) - (d.size : Int) < 0
    · rw [if_pos g2]
      exact ⟨_, rfl, by omega, fun h => absurd h (by omega)⟩
    · rw [if_neg g2]
      exact ⟨_, rfl, by omega, fun _ => by omega⟩
theorem laws_szRRS_l0 (l : List S46) (hl : l.length ≤ 1000000000) (hs : ∀ r ∈ l, r.f0.size ≤ 9223372036854775807 ∧ r.f4.size ≤ 9223372036854775807) : ∀ (d k i : Nat) (x : Int), i + d = l.length → d < k → 0 ≤ x → x ≤ 1048576 → ∃ r, laws_szRRS.l0 k l x (i : Int) = some r ∧ (0 ≤ r → ∀ s ∈ l.drop i, s.f0.size ≤ 1048576 ∧ s.f4.size ≤ 1048576) := by
  intro d
  induction d with
  | zero =>
    intro k i x hi hk h0 h1
    obtain ⟨k, rfl⟩ : ∃ m, k = m + 1 := ⟨k - 1, by omega⟩
    rw [laws_szRRS.l0, if_neg (by omega), List.drop_of_length_le (by omega)]
    exact ⟨_, rfl, fun _ s h => by cases h⟩
  | succ d ih =>
    intro k i x hi hk h0 h1
    obtain ⟨k, rfl⟩ : ∃ m, k = m + 1 := ⟨k - 1, by omega⟩
    have hi' : i < l.length := by omega
    have hel : rd_T46 l (i : Int) = l[i] := by simp [rd_T46, List.getD_eq_getElem?_getD, hi']
    have hsz := hs l[i] (List.getElem_mem _)
    obtain ⟨y, hy, hy1, hy2⟩ := laws_szRR_eq l[i].f0 l[i].f1 l[i].f2 l[i].f3 l[i].f4 x h0 h1 hsz.1 hsz.2
    rw [laws_szRRS.l0, if_pos (by omega), if_pos (by omega), hel, hy, Option.bind_some, w64 (x := (i : Int) + 1) (by omega) (by omega)]
    by_cases hneg : y < 0
    · rw [if_pos hneg]
      exact ⟨_, rfl, fun h => absurd h (by omega)⟩
    · rw [if_neg hneg]
      obtain ⟨r, hr, hp⟩ := ih k (i + 1) y (by omega) (by omega) (by omega) (by omega)
      rw [show ((i + 1 : Nat) : Int) = (i : Int) + 1 by omega] at hr
      refine ⟨r, hr, fun h s hm => ?_⟩
      rw [List.drop_eq_getElem_cons hi'] at hm
      rcases List.mem_cons.1 hm with rfl | hm
      · exact hy2 (by omega)
      · exact hp h s hm
theorem laws_szRRS_eq (l : List S46) (hl : l.length ≤ 9223372036854775807) (hs : ∀ r ∈ l, r.f0.size ≤ 9223372036854775807 ∧ r.f4.size ≤ 9223372036854775807) (k : Nat) (hk : 1048576 < k) : ∃ r, laws_szRRS.f k l 1048576 = some r ∧ (0 ≤ r → l.length ≤ 1048576 ∧ ∀ s ∈ l, s.f0.size ≤ 1048576 ∧ s.f4.size ≤ 1048576) := by
  unfold laws_szRRS.f
  rw [w64 (x := 1048576 - (l.length : Int)) (by omega) (by omega)]
  by_cases h : (1048576 : Int) - (l.length : Int) < 0
  · rw [if_pos h]
    exact ⟨_, rfl, fun h => absurd h (by omega)⟩
  · rw [if_neg h]
    obtain ⟨r, hr, hp⟩ := laws_szRRS_l0 l (by omega) hs l.length k 0 (1048576 - (l.length : Int)) (by omega) (by omega) (by omega) (by omega)
    exact ⟨r, hr, fun h0 => ⟨by omega, by simpa using hp h0⟩⟩

end Go.Proofs.YtpnbhblmfglkcaaDoor.Pure
namespace Go.Proofs.YtpnbhblmfglkcaaDoor.Pure
open Go.RowKit Go.Proofs.YtpnbhblmfglkcaaDoor.F Go.Proofs.YtpnbhblmfglkcaaDoor.Base Go.Proofs.YtpnbhblmfglkcaaDoorW.PrintWords Go.Proofs.YtpnbhblmfglkcaaDoorW.PrintLast Go.Proofs.YtpnbhblmfglkcaaDoorW.PrintMore
set_option linter.unusedVariables false
set_option linter.unusedSimpArgs false
def rrOf (r : S46) : S50 := ⟨r.f0, r.f1, r.f2, r.f3, r.f4⟩
theorem laws_toRRS_l0 (l : List S46) (hl : l.length ≤ 1000000000) : ∀ (d k i : Nat), i + d = l.length → d < k → laws_toRRS.l0 k l ((l.map rrOf).take i ++ List.replicate d z50) (i : Int) = some (l.map rrOf) := by
  intro d
  induction d with
  | zero =>
    intro k i hi hk
    obtain ⟨k, rfl⟩ : ∃ m, k = m + 1 := ⟨k - 1, by omega⟩
    rw [laws_toRRS.l0, if_neg (by omega)]
    simp only [List.replicate_zero, List.append_nil]
    rw [List.take_of_length_le (by rw [List.length_map]; omega)]
  | succ d ih =>
    intro k i hi hk
    obtain ⟨k, rfl⟩ : ∃ m, k = m + 1 := ⟨k - 1, by omega⟩
    have hi' : i < l.length := by omega
    have hel : rd_T46 l (i : Int) = l[i] := by simp [rd_T46, List.getD_eq_getElem?_getD, hi']
    rw [laws_toRRS.l0, if_pos (by omega), if_pos (by omega), hel, laws_toRR.f, Option.bind_some, if_pos (by simp; omega), w64 (by omega) (by omega)]
    have e : ((l.map rrOf).take i ++ List.replicate (d + 1) z50).set (i : Int).toNat (⟨l[i].f0, l[i].f1, l[i].f2, l[i].f3, l[i].f4⟩ : S50) = (l.map rrOf).take (i + 1) ++ List.replicate d z50 := by
      rw [Int.toNat_natCast, List.set_append_right _ _ (by simp; omega), List.length_take, List.length_map, Nat.min_eq_left (by omega), Nat.sub_self, List.replicate_succ, List.set_cons_zero, List.take_succ_eq_append_getElem (by simpa using hi'), List.append_assoc]
      simp [rrOf]
    rw [e]
    exact ih k (i + 1) (by omega) (by omega)
theorem laws_toRRS_eq (l : List S46) (hl : l.length ≤ 1000000000) (k : Nat) (hk : l.length < k) : laws_toRRS.f k l = some (l.map rrOf) := by
  unfold laws_toRRS.f
  rw [if_pos (by omega), if_pos (by omega), Int.toNat_natCast]
  have := laws_toRRS_l0 l hl l.length k 0 (by omega) hk
  simpa using this

end Go.Proofs.YtpnbhblmfglkcaaDoor.Pure
namespace Go.Proofs.YtpnbhblmfglkcaaDoor.Pure
open Go.RowKit Go.Proofs.YtpnbhblmfglkcaaDoor.F Go.Proofs.YtpnbhblmfglkcaaDoor.Base Go.Proofs.YtpnbhblmfglkcaaDoorW.PrintWords Go.Proofs.YtpnbhblmfglkcaaDoorW.PrintLast Go.Proofs.YtpnbhblmfglkcaaDoorW.PrintMore
set_option linter.unusedVariables false
set_option linter.unusedSimpArgs false
-- base: BaseName
theorem spec_l01Join_eq (l : List ByteArray) (hb : (joinL l).length ≤ 1000000000) : spec_l01Join.f l = some (join l) := by
  have hll := joinL_len_ge l
  have e : joinS l = joinL l := rfl
  unfold spec_l01Join.f
  rw [e, if_pos (by omega)]
  rfl

end Go.Proofs.YtpnbhblmfglkcaaDoor.Pure
namespace Go.Proofs.YtpnbhblmfglkcaaDoor.Pure
open Go.RowKit Go.Proofs.YtpnbhblmfglkcaaDoor.F Go.Proofs.YtpnbhblmfglkcaaDoor.Base Go.Proofs.YtpnbhblmfglkcaaDoorW.PrintWords Go.Proofs.YtpnbhblmfglkcaaDoorW.PrintLast Go.Proofs.YtpnbhblmfglkcaaDoorW.PrintMore
set_option linter.unusedVariables false
set_option linter.unusedSimpArgs false
-- base: BaseName
theorem spec_l01Small_l0 (x : ByteArray) (hx0 : x.size ≤ 1048576) : ∀ (n k : Nat) (acc : List Int) (p r : List UInt8), L x = p ++ r → r.length ≤ n → n < k → acc.length + r.length ≤ 1048576 → spec_l01Small.l0 k x acc (p.length : Int) = some (strOfNums (acc ++ r.map fun c => ((low c).toNat : Int))) := by
  intro n
  induction n with
  | zero =>
    intro k acc p r hx hn hk hb
    obtain ⟨k, rfl⟩ : ∃ m, k = m + 1 := ⟨k - 1, by omega⟩
    obtain rfl : r = [] := List.length_eq_zero_iff.1 (by omega)
    have hs := size_L x
    rw [hx] at hs
    simp only [List.append_nil] at hs
    rw [spec_l01Small.l0, if_neg (by omega)]
    simp
  | succ n ih =>
    intro k acc p r hx hn hk hb
    obtain ⟨k, rfl⟩ : ∃ m, k = m + 1 := ⟨k - 1, by omega⟩
    have hs := size_L x
    rw [hx] at hs
    rw [spec_l01Small.l0]
    cases r with
    | nil =>
      simp only [List.append_nil] at hs
      rw [if_neg (by omega)]
      simp
    | cons c r =>
      simp only [List.length_append, List.length_cons] at hs hn hb
      have hc := byte_le c
      rw [if_pos (by omega), if_pos (by omega), bt_mid hx rfl, w64 (by omega) (by omega)]
      have key : ∀ v : Int, v = ((low c).toNat : Int) → (if acc.length < 140737488355328 then spec_l01Small.l0 k x (acc ++ [v]) ((p.length : Int) + 1) else none) = some (strOfNums (acc ++ (c :: r).map fun c => ((low c).toNat : Int))) := by
        intro v hv
        rw [if_pos (by omega), show (p.length : Int) + 1 = ((p ++ [c]).length : Int) by simp, ih k _ (p ++ [c]) r (by rw [hx]; simp) (by omega) (by omega) (by simp; omega), hv]
        simp
      have hlow := low_toNat c
      by_cases h1 : (c.toNat : Int) ≥ 65
      · rw [if_pos h1]
        by_cases h2 : (c.toNat : Int) ≤ 90
        · rw [if_pos h2]
          rw [if_pos (by omega)] at hlow
          exact key _ (by omega)
        · rw [if_neg h2]
          rw [if_neg (by omega)] at hlow
          exact key _ (by omega)
      · rw [if_neg h1]
        rw [if_neg (by omega)] at hlow
        exact key _ (by omega)
theorem spec_l01Small_eq (a : ByteArray) (ha : a.size ≤ 1048576) (k : Nat) (hk : a.size < k) : spec_l01Small.f k a = some (foldB a) := by
  have hs := size_L a
  unfold spec_l01Small.f
  have h := spec_l01Small_l0 a ha (L a).length k [] [] (L a) rfl (Nat.le_refl _) (by omega) (by simp; omega)
  rw [show (([] : List UInt8).length : Int) = 0 from rfl] at h
  rw [h]
  congr 1
  apply L_inj
  rw [L_strOfNums, L_foldB]
  simp

end Go.Proofs.YtpnbhblmfglkcaaDoor.Pure
namespace Go.Proofs.YtpnbhblmfglkcaaDoor.Pure
open Go.RowKit Go.Proofs.YtpnbhblmfglkcaaDoor.F Go.Proofs.YtpnbhblmfglkcaaDoor.Base Go.Proofs.YtpnbhblmfglkcaaDoorW.PrintWords Go.Proofs.YtpnbhblmfglkcaaDoorW.PrintLast Go.Proofs.YtpnbhblmfglkcaaDoorW.PrintMore
set_option linter.unusedVariables false
set_option linter.unusedSimpArgs false
-- base: BaseName
theorem spec_FoldName_l0 (l : List ByteArray) (hb : (joinL l).length ≤ 1000000) : ∀ (d k i : Nat), i + d = l.length → d + l.length + 1000000 < k → spec_FoldName.l0 k ((l.take i).map foldB ++ l.drop i) (i : Int) = some (join (l.map foldB)) := by
  have hll := joinL_len_ge l
  intro d
  induction d with
  | zero =>
    intro k i hi hk
    obtain ⟨k, rfl⟩ : ∃ m, k = m + 1 := ⟨k - 1, by omega⟩
    obtain rfl : i = l.length := by omega
    have e : (l.take l.length).map foldB ++ l.drop l.length = l.map foldB := by simp
    rw [spec_FoldName.l0, e, if_neg (by simp), spec_l01Join_eq _ (by rw [joinL_len_fold]; omega)]
    simp
  | succ d ih =>
    intro k i hi hk
    obtain ⟨k, rfl⟩ : ∃ m, k = m + 1 := ⟨k - 1, by omega⟩
    have hlen : ((l.take i).map foldB ++ l.drop i).length = l.length := by simp; omega
    have hel : rdOf ByteArray.empty ((l.take i).map foldB ++ l.drop i) (i : Int) = l[i]'(by omega) := by
      have hi' : i < l.length := by omega
      simp [rdOf, List.getD_eq_getElem?_getD, List.getElem?_append_right, Nat.min_eq_left (Nat.le_of_lt hi'), hi']
    have hm : l[i]'(by omega) ∈ l := List.getElem_mem _
    have hsz := mem_len_le hm
    rw [spec_FoldName.l0, if_pos (by omega), if_pos (by omega), hel, spec_l01Small_eq _ (by omega) k (by omega)]
    simp only [Option.bind_some]
    rw [w64 (by omega) (by omega)]
    have e : ((l.take i).map foldB ++ l.drop i).set (i : Int).toNat (foldB (l[i]'(by omega))) = (l.take (i + 1)).map foldB ++ l.drop (i + 1) := by
      rw [Int.toNat_natCast, List.set_append_right _ _ (by simp; omega), List.length_map, List.length_take, Nat.min_eq_left (by omega), Nat.sub_self, List.drop_eq_getElem_cons (by omega), List.set_cons_zero, List.take_succ_eq_append_getElem (by omega), List.map_append, List.append_assoc]
      simp
    rw [e]
    exact ih k (i + 1) (by omega) (by omega)
theorem spec_FoldName_eq (a : ByteArray) (k : Nat) (hk : 1100000 ≤ k) : spec_FoldName.f k a = some (if (names (L a)).isSome = true then foldB a else ⟨#[]⟩) := by
  unfold spec_FoldName.f
  rw [spec_l01Split_eq a k (by omega)]
  cases h : names (L a) with
  | none => simp [res]
  | some ls =>
    obtain ⟨h1, h2, h3⟩ := names_join h
    have hl : (joinL ls).length + 1 ≤ 255 := by rw [h1] at h3; simpa using h3
    have hll := joinL_len_ge ls
    simp only [res, Option.bind_some, if_true, List.nil_append, Option.isSome_some]
    have := spec_FoldName_l0 ls (by omega) ls.length k 0 (by omega) (by omega)
    simp only [List.take_zero, List.map_nil, List.nil_append, List.drop_zero] at this
    rw [show ((0 : Nat) : Int) = 0 from rfl] at this
    rw [this, ← fold_join (mem_size h2), join_names h]

end Go.Proofs.YtpnbhblmfglkcaaDoor.Pure
namespace Go.Proofs.YtpnbhblmfglkcaaDoor.Pure
open Go.RowKit Go.Proofs.YtpnbhblmfglkcaaDoor.F Go.Proofs.YtpnbhblmfglkcaaDoor.Base Go.Proofs.YtpnbhblmfglkcaaDoorW.PrintWords Go.Proofs.YtpnbhblmfglkcaaDoorW.PrintLast Go.Proofs.YtpnbhblmfglkcaaDoorW.PrintMore
set_option linter.unusedVariables false
set_option linter.unusedSimpArgs false
-- base: BaseName
theorem spec_SameName_eq (a b : ByteArray) (k : Nat) (hk : 1100000 ≤ k) : spec_SameName.f k a b = some (sameN a b) := by
  unfold spec_SameName.f
  rw [spec_FoldName_eq a k hk, spec_FoldName_eq b k hk]
  simp only [Option.bind_some]
  unfold sameN
  cases ha : names (L a) with
  | none => simp [toL, L]
  | some ls =>
    simp only [Option.isSome_some, if_true, Bool.true_and]
    rw [toL, if_neg (foldB_ne ha)]
    cases hb : names (L b) with
    | none =>
      simp only [Option.isSome_none, Bool.false_eq_true, if_false, Bool.false_and]
      rw [toL]
      have := foldB_ne ha
      simp [L] at this ⊢
      exact this
    | some ms => simp only [Option.isSome_some, if_true, Bool.true_and, toL]

end Go.Proofs.YtpnbhblmfglkcaaDoor.Pure
namespace Go.Proofs.YtpnbhblmfglkcaaDoor.Pure
open Go.RowKit Go.Proofs.YtpnbhblmfglkcaaDoor.F Go.Proofs.YtpnbhblmfglkcaaDoor.Base Go.Proofs.YtpnbhblmfglkcaaDoorW.PrintWords Go.Proofs.YtpnbhblmfglkcaaDoorW.PrintLast Go.Proofs.YtpnbhblmfglkcaaDoorW.PrintMore
set_option linter.unusedVariables false
set_option linter.unusedSimpArgs false
-- base: BaseName
theorem spec_IsUnder_eq (a b : ByteArray) (k : Nat) (hk : 1100001 ≤ k) : spec_IsUnder.f k a b = some (underN a b) := by
  obtain ⟨k, rfl⟩ : ∃ m, k = m + 1 := ⟨k - 1, by omega⟩
  unfold spec_IsUnder.f underN
  rw [spec_l01Split_eq a _ (by omega), spec_l01Split_eq b _ (by omega)]
  cases ha : names (L a) with
  | none => simp [res, spec_IsUnder.j0]
  | some x =>
    cases hb : names (L b) with
    | none => simp [res, spec_IsUnder.j0]
    | some y =>
      obtain ⟨gx, jx, lx⟩ := names_good ha
      obtain ⟨gy, jy, ly⟩ := names_good hb
      have hlx := joinL_len_ge x
      have hly := joinL_len_ge y
      simp only [res, Option.bind_some, List.nil_append, if_true, spec_IsUnder.j0]
      unfold underL
      by_cases h : x.length < y.length
      · rw [if_pos (by simp; omega), decide_eq_false (by omega)]
      · have hd := joinL_len_drop x (x.length - y.length)
        have gd := gx.drop (x.length - y.length)
        have hn : names (L (join (x.drop (x.length - y.length)))) = some (x.drop (x.length - y.length)) := by rw [L_join]; exact names_of_join gd (by omega)
        rw [if_neg (by simp; omega), w64 (by omega) (by omega), if_pos (by omega), if_pos (by omega), show ((x.length : Int) - (y.length : Int)).toNat = x.length - y.length by omega, spec_l01Join_eq _ (by omega)]
        simp only [Option.bind_some]
        rw [spec_SameName_eq _ _ k (by omega), sameN_iff hn hb]
        simp only [Option.bind_some, Option.some.injEq, decide_eq_decide]
        exact ⟨fun h1 => ⟨by omega, h1⟩, fun h1 => h1.2⟩

end Go.Proofs.YtpnbhblmfglkcaaDoor.Pure
namespace Go.Proofs.YtpnbhblmfglkcaaDoor.Pure
open Go.RowKit Go.Proofs.YtpnbhblmfglkcaaDoor.F Go.Proofs.YtpnbhblmfglkcaaDoor.Base Go.Proofs.YtpnbhblmfglkcaaDoorW.PrintWords Go.Proofs.YtpnbhblmfglkcaaDoorW.PrintLast Go.Proofs.YtpnbhblmfglkcaaDoorW.PrintMore
set_option linter.unusedVariables false
set_option linter.unusedSimpArgs false
-- base: BaseName
theorem soundList_both (l : List S50) (hl : ∀ r ∈ l, (Lit.int .i64 r.f1).wf = true) (hn : l.length ≤ 400) : ∀ (d K i : Nat), i + d = l.length → 450000001 + d ≤ K → ∃ b, spec_l04AllSound.l0 K l (i : Int) = some b ∧ impl_soundList.l0 K l (l.length : Int) (i : Int) = some b := by
  intro d
  induction d with
  | zero =>
    intro K i hi hK
    obtain ⟨K, rfl⟩ : ∃ m, K = m + 1 := ⟨K - 1, by omega⟩
    exact ⟨true, by rw [spec_l04AllSound.l0, if_neg (by omega)], by rw [impl_soundList.l0, if_neg (by omega)]⟩
  | succ d ih =>
    intro K i hi hK
    obtain ⟨K, rfl⟩ : ∃ m, K = m + 1 := ⟨K - 1, by omega⟩
    have hi' : i < l.length := by omega
    have hel : rd_T50 l (i : Int) = l[i] := by simp [rd_T50, List.getD_eq_getElem?_getD, hi']
    obtain ⟨b, e1, e2⟩ := recordOk_both l[i] (hl _ (List.getElem_mem _)) K (by omega)
    rw [spec_l04AllSound.l0, impl_soundList.l0, if_pos (by omega), if_pos (by omega), if_pos (by omega), if_pos (by omega), if_pos (by omega), hel, e1, e2, Option.bind_some, Option.bind_some, w64 (x := (i : Int) + 1) (by omega) (by omega)]
    cases b with
    | false => exact ⟨false, rfl, rfl⟩
    | true =>
      obtain ⟨b, g1, g2⟩ := ih K (i + 1) (by omega) (by omega)
      exact ⟨b, g1, g2⟩
theorem changes_both (a : ByteArray) (l : List S50) (hl : ∀ r ∈ l, (Lit.int .i64 r.f1).wf = true) (hn : l.length ≤ 400) : ∀ (d K i : Nat), i + d = l.length → 450000001 + d ≤ K → ∃ c, spec_l10Changes.l0 K a l (i : Int) = some c ∧ impl_CheckChanges.l0 K a l (l.length : Int) (i : Int) = some (c, 0) := by
  intro d
  induction d with
  | zero =>
    intro K i hi hK
    obtain ⟨K, rfl⟩ : ∃ m, K = m + 1 := ⟨K - 1, by omega⟩
    exact ⟨0, by rw [spec_l10Changes.l0, if_neg (by omega)], by rw [impl_CheckChanges.l0, if_neg (by omega)]⟩
  | succ d ih =>
    intro K i hi hK
    obtain ⟨K, rfl⟩ : ∃ m, K = m + 1 := ⟨K - 1, by omega⟩
    have hi' : i < l.length := by omega
    have hel : rd_T50 l (i : Int) = l[i] := by simp [rd_T50, List.getD_eq_getElem?_getD, hi']
    generalize hr : l[i] = r at hel
    have hm : r ∈ l := by rw [← hr]; exact List.getElem_mem _
    obtain ⟨c, e1, e2, _⟩ := CheckData_both r.f1 (hl _ hm) r.f4 K (by omega)
    obtain ⟨c2, g1, g2⟩ := ih K (i + 1) (by omega) (by omega)
    rw [show ((i + 1 : Nat) : Int) = (i : Int) + 1 from by omega] at g1 g2
    have hmeta : ∀ t : Int, impl_isMeta.f t = spec_l05Meta.f t := fun t => rfl
    obtain ⟨mt, hmt⟩ : ∃ b, spec_l05Meta.f r.f1 = some b := by
      unfold spec_l05Meta.f
      repeat' split
      all_goals exact ⟨_, rfl⟩
    rw [spec_l10Changes.l0, impl_CheckChanges.l0, if_pos (by omega), if_pos (by omega), if_pos (by omega), if_pos (by omega), if_pos (by omega), hel, w64 (x := (i : Int) + 1) (by omega) (by omega)]
    unfold spec_l10ChangeOK.f
    rw [spec_IsUnder_eq _ _ K (by omega), impl_IsUnder_eq _ _ K (by omega), Option.bind_some, Option.bind_some, hmeta, hmt, e1, e2]
    simp only [Option.bind_some]
    have skip : ∀ x : Option Int, x = some 0 → ∃ c, (x.bind fun t102 => if t102 = 0 then spec_l10Changes.l0 K a l ((i : Int) + 1) else some t102) = some c ∧ impl_CheckChanges.l0 K a l (l.length : Int) ((i : Int) + 1) = some (c, 0) := by
      rintro x rfl
      exact ⟨c2, by rw [Option.bind_some, if_pos rfl, g1], g2⟩
    have stop : ∀ (x : Option Int) (n : Int), x = some n → n ≠ 0 → ∃ c, (x.bind fun t102 => if t102 = 0 then spec_l10Changes.l0 K a l ((i : Int) + 1) else some t102) = some c ∧ some (n, (0 : Int)) = some (c, 0) := by
      rintro x n rfl hn
      exact ⟨n, by rw [Option.bind_some, if_neg hn], rfl⟩
    by_cases hu : underN r.f0 a = true
    · rw [if_pos hu, if_pos hu]
      by_cases c1 : r.f2 = 1
      · rw [if_pos c1, if_pos c1]
        by_cases cm : mt = true
        · rw [if_pos cm, if_pos cm]; exact stop _ _ rfl (by decide)
        · rw [if_neg cm, if_neg cm]
          by_cases c3 : c = 0
          · rw [if_pos c3, if_pos c3]
            by_cases c4 : r.f3 ≤ 2147483647
            · rw [if_pos c4, if_pos c4]; exact skip _ rfl
            · rw [if_neg c4, if_neg c4]; exact stop _ _ rfl (by decide)
          · rw [if_neg c3, if_neg c3]; exact stop _ _ rfl (by decide)
      · rw [if_neg c1, if_neg c1]
        by_cases c2' : r.f2 = 255
        · rw [if_pos c2', if_pos c2']
          by_cases c3 : r.f3 = 0
          · rw [if_pos c3, if_pos c3]
            by_cases c4 : r.f4.toList = []
            · rw [if_pos c4, if_pos c4]
              by_cases cm : mt = true
              · rw [if_pos cm, if_pos cm]
                by_cases c5 : r.f1 = 255
                · rw [if_pos c5, if_pos c5]; exact skip _ rfl
                · rw [if_neg c5, if_neg c5]; exact stop _ _ rfl (by decide)
              · rw [if_neg cm, if_neg cm]; exact skip _ rfl
            · rw [if_neg c4, if_neg c4]; exact stop _ _ rfl (by decide)
          · rw [if_neg c3, if_neg c3]; exact stop _ _ rfl (by decide)
        · rw [if_neg c2', if_neg c2']
          by_cases c6 : r.f2 = 254
          · rw [if_pos c6, if_pos c6]
            by_cases c3 : r.f3 = 0
            · rw [if_pos c3, if_pos c3]
              by_cases cm : mt = true
              · rw [if_pos cm, if_pos cm]; exact stop _ _ rfl (by decide)
              · rw [if_neg cm, if_neg cm]
                by_cases c7 : c = 0
                · rw [if_pos c7, if_pos c7]; exact skip _ rfl
                · rw [if_neg c7, if_neg c7]; exact stop _ _ rfl (by decide)
            · rw [if_neg c3, if_neg c3]; exact stop _ _ rfl (by decide)
          · rw [if_neg c6, if_neg c6]; exact stop _ _ rfl (by decide)
    · rw [if_neg hu, if_neg hu]
      exact stop _ _ rfl (by decide)
theorem CheckChanges_both (a : ByteArray) (l : List S50) (hl : ∀ r ∈ l, (Lit.int .i64 r.f1).wf = true) (K : Nat) (hK : 450001000 ≤ K) : ∃ q, spec_CheckChanges.f K a l = some q ∧ impl_CheckChanges.f K a l = some q := by
  obtain ⟨K, rfl⟩ : ∃ m, K = m + 1 := ⟨K - 1, by omega⟩
  unfold spec_CheckChanges.f impl_CheckChanges.f
  rw [spec_NameOK_eq _ _ (by omega), impl_NameOK_eq _ _ (by omega), Option.bind_some, Option.bind_some]
  by_cases hn : (names (L a)).isSome = true
  · rw [if_pos hn, if_pos hn]
    unfold spec_l10ListOK.f impl_soundList.f spec_l04AllSound.f
    by_cases h4 : (l.length : Int) ≤ 400
    · obtain ⟨b, e1, e2⟩ := soundList_both l hl (by omega) l.length (K + 1) 0 (by omega) (by omega)
      rw [show ((0 : Nat) : Int) = 0 from rfl] at e1 e2
      rw [if_pos h4, if_neg (by omega), e1, e2, Option.bind_some, Option.bind_some, Option.bind_some]
      cases b with
      | false => exact ⟨(0, 32), rfl, rfl⟩
      | true =>
        obtain ⟨c, g1, g2⟩ := changes_both a l hl (by omega) l.length (K + 1) 0 (by omega) (by omega)
        obtain ⟨c', g1', g2'⟩ := changes_both a l hl (by omega) l.length K 0 (by omega) (by omega)
        have hcc : c = c' := by
          have h3 := spec_l10Changes.mono a l K _ (show spec_l10Changes.f K a l = some c' from g1')
          exact Option.some.inj (g1.symm.trans h3)
        refine ⟨(c, 0), ?_, ?_⟩
        · rw [if_pos rfl, show spec_l10Changes.f (K + 1) a l = some c from g1, Option.bind_some]
        · rw [show (!true) = false from rfl, impl_CheckChanges.j0, if_neg (by decide), hcc]
          exact g2'
    · rw [if_neg h4, if_pos (by omega), Option.bind_some, Option.bind_some]
      exact ⟨(0, 32), rfl, by rw [show (!false) = true from rfl, impl_CheckChanges.j0, if_pos rfl]⟩
  · rw [if_neg hn, if_neg hn]
    exact ⟨(0, 32), rfl, by rw [impl_CheckChanges.j0, if_pos rfl]⟩
theorem FnExactCheckChanges (a : ByteArray) (l : List S46) (ha : a.size ≤ 140737488351232) (hn : l.length ≤ maxLen) (hl : ∀ r ∈ l, r.f0.size ≤ maxLen ∧ (Lit.int .i64 r.f1).wf = true ∧ (Lit.int .i64 r.f2).wf = true ∧ (Lit.int .i64 r.f3).wf = true ∧ r.f4.size ≤ maxLen) : ∃ k, laws_FnExactCheckChanges.f k a l = some true := by
  refine ⟨450002000, ?_⟩
  unfold laws_FnExactCheckChanges.f
  by_cases h : (a.size : Int) > 1048576
  · rw [if_pos h]
  · unfold maxLen at hn hl
    obtain ⟨t, ht, ht2⟩ := laws_szRRS_eq l hn (fun r hr => ⟨(hl r hr).1, (hl r hr).2.2.2.2⟩) 450002000 (by omega)
    rw [if_neg h, ht, Option.bind_some]
    by_cases hneg : t < 0
    · rw [if_pos hneg]
    · obtain ⟨b1, b2⟩ := ht2 (by omega)
      have hto : ∀ K, 1048577 ≤ K → laws_toRRS.f K l = some (l.map rrOf) := fun K hK => laws_toRRS_eq l (by omega) K (by omega)
      obtain ⟨q, e1, e2⟩ := CheckChanges_both a (l.map rrOf) (fun r hr => by obtain ⟨x, hx, rfl⟩ := List.mem_map.1 hr; exact (hl x hx).2.1) 450002000 (by omega)
      rw [if_neg hneg, hto _ (by omega), Option.bind_some, e1, Option.bind_some, Option.bind_some, e2, Option.bind_some, if_pos rfl, show (q.2 != q.2) = false from bne_self_eq_false _, laws_FnExactCheckChanges.j0, if_neg (by decide), hto _ (by omega), Option.bind_some, laws_eqRRS_refl _ (by rw [List.length_map]; omega) _ (by rw [List.length_map]; omega), Option.bind_some, if_pos rfl]

end Go.Proofs.YtpnbhblmfglkcaaDoor.Pure
namespace Go.Proofs.YtpnbhblmfglkcaaDoor.fnExactCheckChanges
open Go.ChangeShapes Go.WideShapes Go.ChangeAt Go.RowKit Go.Proofs.YtpnbhblmfglkcaaDoorW.PrintWords Go.Proofs.YtpnbhblmfglkcaaDoor.F
open Go.ChangeMaps (open_string shut_string)
set_option linter.unusedVariables false
theorem laidOut : laidOutB Tryd.prog = true := by kernel_rfl
theorem own : ownKnob Tryd.prog.godebug = none := by kernel_rfl

set_option maxRecDepth 100000 in
theorem rrs_of_trod {H : Type} {enc : TypeId × Value → H} {W : World} {sp : Nat → Bool} {hd : Bool} {fuel : Nat} {cs : List Value} {x : DataW H × List MemPlace}
    (h : DataW.trod enc Tryd.prog W 0 sp hd fuel 22 cs = some x) :
    cs = [.slice none 0 0] ∨ ∃ (a : Addr) (len cap : Nat) (l : List S46), cs = [.slice (some a) len cap] ∧ len ≤ cap ∧ cap ≤ maxLen ∧ l.length = len ∧ Kd.C k46 W (some a) len l ∧
      ∀ r ∈ l, r.f0.size ≤ maxLen ∧ (Lit.int .i64 r.f1).wf = true ∧ (Lit.int .i64 r.f2).wf = true ∧ (Lit.int .i64 r.f3).wf = true ∧ r.f4.size ≤ maxLen := by
  rcases Go.Deep.open_slice Tryd.underlying22 h with ⟨h0, _⟩ | ⟨a, len, cap, m, n, D, Pl, rfl, _, hl, hm, hmm, _, hx⟩
  · exact Or.inl h0
  right
  have hlm : len ≤ m := by rw [hmm]; split <;> omega
  have ce : Tryd.prog.cellsOf 46 = 5 := by kernel_rfl
  have each : ∀ i, i < len → ∃ r : S46, (∀ i' u, [Value.string r.f0, .int .i64 r.f1, .int .i64 r.f2, .int .i64 r.f3, .string r.f4][i']? = some u → W.cell? (a.add (i * 5 + i')) = some u) ∧
      r.f0.size ≤ maxLen ∧ (Lit.int .i64 r.f1).wf = true ∧ (Lit.int .i64 r.f2).wf = true ∧ (Lit.int .i64 r.f3).wf = true ∧ r.f4.size ≤ maxLen := by
    intro i hi
    obtain ⟨cs', h1, h2⟩ := hx i (by omega)
    rw [ce] at h1
    obtain ⟨_, hlen, hcell⟩ := World.cells?_some h1
    obtain ⟨xs, k, hk, hxy, _, hxl, hf⟩ := DataW.trod_struct Tryd.underlying46 h2
    match xs, hxl, cs', hlen with
    | [y0, y1, y2, y3, y4], _, [v0, v1, v2, v3, v4], _ =>
      have c9 : Tryd.prog.cellsOf 9 = 1 := by kernel_rfl
      have c2 : Tryd.prog.cellsOf 2 = 1 := by kernel_rfl
      have g0 := hf 0 _ rfl
      have g1 := hf 1 _ rfl
      have g2 := hf 2 _ rfl
      have g3 := hf 3 _ rfl
      have g4 := hf 4 _ rfl
      simp [c9, c2] at g0 g1 g2 g3 g4
      obtain ⟨s0, e0, _, b0⟩ := DataW.trod_string Tryd.underlying9 g0
      obtain ⟨n1, e1, _, b1⟩ := DataW.trod_int Tryd.underlying2 g1
      obtain ⟨n2, e2, _, b2⟩ := DataW.trod_int Tryd.underlying2 g2
      obtain ⟨n3, e3, _, b3⟩ := DataW.trod_int Tryd.underlying2 g3
      obtain ⟨s4, e4, _, b4⟩ := DataW.trod_string Tryd.underlying9 g4
      simp only [List.cons.injEq, and_true] at e0 e1 e2 e3 e4
      subst e0 e1 e2 e3 e4
      refine ⟨⟨s0, n1, n2, n3, s4⟩, fun i' u hu => ?_, b0, b1, b2, b3, b4⟩
      have hlt : i' < 5 := by
        have := (List.getElem?_eq_some_iff.1 hu).1
        simpa using this
      have := hcell i' hlt
      rw [← Go.Deep.add_add, this]
      exact hu
  haveI : Inhabited S46 := ⟨z46⟩
  obtain ⟨q, hq⟩ := Go.Deep.choose_lt each
  refine ⟨a, len, cap, (List.range len).map q, rfl, hl, hm, by simp, ⟨by simp, by unfold maxLen at hm; omega, fun _ => ⟨a, rfl, fun j p hj => ?_⟩⟩, fun r hr => ?_⟩
  · have hj2 : j < len ∧ q j = p := by
      rw [List.getElem?_map] at hj
      obtain ⟨y, hy, rfl⟩ := Option.map_eq_some_iff.1 hj
      obtain ⟨hl2, rfl⟩ := List.getElem?_eq_some_iff.1 hy
      exact ⟨by simpa using hl2, by simp⟩
    obtain ⟨hj3, rfl⟩ := hj2
    exact ⟨_, rfl, k46_mk _ _, (hq j hj3).1⟩
  · obtain ⟨j, hj, rfl⟩ := List.mem_map.1 hr
    exact (hq j (List.mem_range.1 hj)).2

set_option maxRecDepth 100000 in
theorem lifted (os : Os) (started : os.Started) (H : Type) (enc : TypeId × Value → H) :
    ReturnsInHanded {} Tryd.checked os 3 .any (fun w args => (Rows.fnExactCheckChangesSpec.pre enc Tryd.prog Tryd.f3 [] false w args ∧ laidMetH Tryd.prog (XGlob.laidF (H := Unit)) w) ∧ sizedMet enc Tryd.prog Tryd.f3 (OpenSpec.ofChange Rows.fnExactCheckChangesSpec) false w args) (Rows.fnExactCheckChangesSpec.post enc Tryd.prog Tryd.f3 false true false false) := by
  refine returnsInHanded_of_change_and (C := Tryd.checked) (X := fun w _ => laidMetH Tryd.prog (XGlob.laidF (H := Unit)) w) (fun _ _ _ hh h => h.of_heap hh) own started (by kernel_rfl) Tryd.func3
    (ChangeSpec.witness_shaped (enc := enc) (C := Tryd.checked) (os := os) (X := fun w _ => laidMetH Tryd.prog (XGlob.laidF (H := Unit)) w) false (World.doorLaid Tryd.prog 84 os) #[.string ByteArray.empty, .slice none 0 0] 8 rfl (World.shaped_of_RefB (by kernel_rfl) (by kernel_rfl)) (by kernel_rfl) (by kernel_rfl) (by kernel_rfl) (XGlob.door_met os _)) ?_
  intro W base args ds gs before hval0 hW hcnd hsz0 hL _
  have hsz : (DataW.weightsEach Tryd.prog (Tryd.f3.params.toList ++ Rows.fnExactCheckChangesSpec.plain.varTypes Tryd.prog) (ds ++ gs)).all (· ≤ reachBytes) = true := hsz0
  have hval : ∀ (j : Nat) t v, Tryd.f3.params[j]? = some t → args[j]? = some v → Value.okWide Tryd.prog W .any base t v := hval0
  have hW' := hW
  obtain ⟨p, q, hA0, hV, rfl, hfz, hnd⟩ := hW
  have hA : DataW.TrodAll enc Tryd.prog W 0 (fun _ => true) true Tryd.f3.params.toList args.toList ds p := hA0
  rw [Tryd.params3] at hA hval hsz
  obtain ⟨v0, vs0, d0, ds0, p0, q0, hargs, rfl, rfl, h0, r0⟩ := trodAll_cons hA
  obtain ⟨v1, vs1, d1, ds1, p1, q1, rfl, rfl, rfl, h1, r1⟩ := trodAll_cons r0
  obtain ⟨rfl, rfl, rfl⟩ := trodAll_nil r1
  obtain rfl : args = #[v0, v1] := by cases args; simp_all
  have hV2 := hV
  obtain ⟨gg, tt, cs, fuel, dg, pg, rfl, hg1, hg2, hg3, hg4, rfl⟩ := trodVars_one hV
  obtain ⟨a0, rfl, rfl, rfl, y0⟩ := open_string Tryd.underlying9 (hval 0 9 v0 rfl rfl) h0
  obtain ⟨A1, len1, cap1, rfl⟩ := okWide_slice Tryd.underlying22 (hval 1 22 v1 rfl rfl)
  have k1 := h1
  have lt1 : ∀ x ∈ p1, x.block < W.heap.size := by obtain ⟨m, hm⟩ := k1; exact DataW.trod_lt m _ _ _ hm
  have w0 : a0.size ≤ 140737488351232 := by
    have z := sized_string hsz (j := 0) (t := 9) rfl rfl
    rw [Array.length_toList] at z
    exact z
  obtain ⟨l, hl1, hl2, hl3, hl4, hl5⟩ : ∃ l : List S46, l.length = len1 ∧ len1 ≤ cap1 ∧ cap1 ≤ maxLen ∧ Kd.C k46 W A1 l.length l ∧ ∀ r ∈ l, r.f0.size ≤ maxLen ∧ (Lit.int .i64 r.f1).wf = true ∧ (Lit.int .i64 r.f2).wf = true ∧ (Lit.int .i64 r.f3).wf = true ∧ r.f4.size ≤ maxLen := by
    obtain ⟨fuel, hf⟩ := h1
    rcases rrs_of_trod hf with hcs | ⟨a, len, cap, l, hcs, g1, g2, g3, g4, g5⟩
    · simp [Value.cells] at hcs
      obtain ⟨rfl, rfl, rfl⟩ := hcs
      exact ⟨[], rfl, Nat.le_refl _, Nat.zero_le _, ⟨rfl, by simp, (fun h => absurd h (by simp))⟩, fun r hr => by cases hr⟩
    · simp [Value.cells] at hcs
      obtain ⟨rfl, rfl, rfl⟩ := hcs
      subst g3
      exact ⟨l, rfl, g1, g2, g4, g5⟩
  clear hA0 hval0 hsz0 hsz
  subst hl1
  obtain ⟨k, hk⟩ := Pure.FnExactCheckChanges a0 l w0 (by omega) hl5
  refine (F.laws_FnExactCheckChanges.calls k a0 A1 cap1 l true W hl4 hl2 hk (XGlob.glob_of_laid hL)).mono fun e W' ⟨he, bel⟩ => ?_
  subst he
  exact ⟨_, rfl, _, _, _, [], _, _, hW', trodAll_mk1 (shut_bool Tryd.underlying4 _), (trodAll_cons_mk (shut_string Tryd.underlying9 y0) (trodAll_cons_mk (Below.trod laidOut (by kernel_rfl) (of_decide_eq_true (by kernel_rfl)) k1 bel lt1) trodAll_mk0)), bel.trodVars laidOut (by kernel_rfl) hV2, bel.frame _, fun h => by cases h⟩
theorem over : Rows.fnExactCheckChangesRow.holds Tryd.pinned (OpenSpec.ofChange Rows.fnExactCheckChangesSpec) :=
  OpenClaim.holds_of_wide 3 Tryd.f3 rfl rfl rfl rfl rfl rfl rfl ⟨rfl, rfl, rfl, rfl, rfl⟩ rfl rfl rfl rfl rfl (by kernel_rfl) Tryd.func3 (by kernel_rfl)
    (of_decide_eq_true (by kernel_rfl)) (by unfold Func.isWrapper; first | (rw [if_pos (by decide +kernel)]; kernel_rfl) | (rw [if_neg (by decide +kernel)]; exact ⟨rfl, rfl⟩))
    (fun os started H enc _ => lifted os started H enc)
end Go.Proofs.YtpnbhblmfglkcaaDoor.fnExactCheckChanges
namespace Go.Proofs.YtpnbhblmfglkcaaDoor
open Go
/-- The tied card. -/
theorem fnExactCheckChanges_holds : Rows.FnExactCheckChangesCardSaid :=
  Claim7.holds_tied_plain_at .later [] [.mapped] true (true, "18fc3e1b83e81db8fefe6a2eb56e50ac5a7b7a2ef0ba81b7bc44f34fada4a4f9") false
    fnExactCheckChanges.over (fun _ h => by cases h) (by kernel_rfl) (fun _ h => by cases h) fnExactCheckChanges_row_tie rfl ⟨rfl, rfl⟩ (by kernel_rfl) rfl
    (fun f fn hf hfn => by
      obtain rfl : f = 3 := Option.some.inj ((show Tryd.prog.funcNamed "loop.example/s01858/laws.FnExactCheckChanges" = some 3 by kernel_rfl).symm.trans hf) |>.symm
      obtain rfl : fn = Tryd.f3 := (Option.some.inj (Tryd.func3.symm.trans hfn)).symm
      exact ⟨by kernel_rfl, fun j t ht => by
        have hall : (Tryd.f3.params.all fun u => !Tryd.prog.wantsStandIn u) = true := by kernel_rfl
        have hm := Array.all_eq_true'.1 hall t (Array.mem_of_getElem? ht)
        exact (show Tryd.prog.wantsStandIn t = false by simpa using hm)⟩)
    (by kernel_rfl)
#print axioms fnExactCheckChanges_holds
end Go.Proofs.YtpnbhblmfglkcaaDoor
