/- The pure statement of FnExactLabels: what the program's function computes is what the reference computes, at every argument. No condition beyond the statement's own. -/
import Derived.Test.YtelmbgholdnaaaaPFnExactLabelsx2
import Derived.Test.YtelmbgholdnaaaaBase
namespace Go.Proofs.Ytelmbgholdnaaaa.Pure
open Go.RowKit Go.Proofs.Ytelmbgholdnaaaa.PFnExactLabels Go.Proofs.Ytelmbgholdnaaaa.Base Go.Proofs.YtelmbgholdnaaaaW.PrintWords Go.Proofs.YtelmbgholdnaaaaW.PrintLast Go.Proofs.YtelmbgholdnaaaaW.PrintMore
set_option linter.unusedVariables false
set_option linter.unusedSimpArgs false
theorem spec_l01Split_l0 : ∀ (n k : Nat) (acc : List ByteArray) (x : ByteArray), x.size ≤ n → n < k → acc.length + x.size ≤ 300 → spec_l01Split.l0 k acc x = some (res acc (labs (L x))) := by
  intro n
  induction n with
  | zero =>
    intro k acc x hn hk hb
    obtain ⟨k, rfl⟩ : ∃ m, k = m + 1 := ⟨k - 1, by omega⟩
    have hs := size_L x
    have hx : L x = [] := List.length_eq_zero_iff.1 (by omega)
    simp only [spec_l01Split.l0, toL]
    rw [if_pos hx, hx]
    simp [labs, res]
  | succ n ih =>
    intro k acc x hn hk hb
    obtain ⟨k, rfl⟩ : ∃ m, k = m + 1 := ⟨k - 1, by omega⟩
    have hs := size_L x
    simp only [spec_l01Split.l0, toL]
    cases hx : L x with
    | nil => rw [if_pos rfl]; simp [labs, res]
    | cons c r =>
      rw [hx] at hs
      simp only [List.length_cons] at hs
      have hc := byte_le c
      rw [bt_cons hx, if_neg (by simp), if_pos (by omega)]
      simp (maxSteps := 10000000) (disch := omega) only [w64]
      rw [labs]
      by_cases h0 : c.toNat = 0
      · rw [if_pos (by omega), if_pos h0]
        by_cases hr : r = []
        · rw [if_pos (by subst hr; simp at hs; omega), if_pos hr]; simp [res]
        · rw [if_neg (by intro h; exact hr (List.length_eq_zero_iff.1 (by omega))), if_neg hr]; simp [res]
      · rw [if_neg (by omega), if_neg h0]
        by_cases h63 : 63 < c.toNat
        · rw [if_pos (by omega), if_pos h63]; simp [res]
        · rw [if_neg (by omega), if_neg h63]
          by_cases hl : r.length < c.toNat
          · rw [if_pos (by omega), if_pos hl]; simp [res]
          · rw [if_neg (by omega), if_neg hl, if_pos (by omega), if_pos (by omega), if_pos (by omega), if_pos (by omega)]
            have e0 : ((c.toNat : Int) + 1).toNat = c.toNat + 1 := by omega
            rw [e0]
            have e1 : x.extract 1 (c.toNat + 1) = B (r.take c.toNat) := L_inj (by rw [L_extract, hx, L_B]; simp)
            have e2 : L (x.extract (c.toNat + 1) x.size) = r.drop c.toNat := by rw [L_extract, hx, hs]; simp [List.take_of_length_le]
            have e3 : (x.extract (c.toNat + 1) x.size).size = r.length - c.toNat := by rw [size_L, e2]; simp
            rw [ih k _ _ (by omega) (by omega) (by simp; omega), e1, e2, res_map]
theorem spec_l01Split_eq (a : ByteArray) (k : Nat) (hk : 400 ≤ k) : spec_l01Split.f k a = some (res [] (names (L a))) := by
  obtain ⟨k, rfl⟩ : ∃ m, k = m + 1 := ⟨k - 1, by omega⟩
  have hs := size_L a
  unfold spec_l01Split.f names
  simp only [Option.bind_some, spec_l01Split.j0]
  by_cases h1 : (L a).length < 1
  · rw [if_pos (by omega), if_pos trivial, if_pos (by omega)]; simp [res]
  · rw [if_neg (by omega)]
    by_cases h2 : 255 < (L a).length
    · rw [if_pos (by simp; omega), if_pos (by omega)]; simp [res]
    · rw [if_neg (by simp; omega), if_neg (by omega)]
      exact spec_l01Split_l0 a.size k [] a (Nat.le_refl _) (by omega) (by simp; omega)

theorem spec_Labels_eq (a : ByteArray) (k : Nat) (hk : 400 ≤ k) : spec_Labels.f k a = some ((names (L a)).getD []) := by
  unfold spec_Labels.f
  rw [spec_l01Split_eq a k hk]
  cases names (L a) <;> simp [res]

theorem impl_labelsOf_l0 (x : ByteArray) (hx255 : x.size ≤ 255) : ∀ (n k : Nat) (acc : List ByteArray) (p r : List UInt8), L x = p ++ r → r.length ≤ n → n < k → acc.length + r.length ≤ 300 → impl_labelsOf.l0 k x acc (p.length : Int) = some (res2 acc r) := by
  intro n
  induction n with
  | zero =>
    intro k acc p r hx hn hk hb
    obtain ⟨k, rfl⟩ : ∃ m, k = m + 1 := ⟨k - 1, by omega⟩
    obtain rfl : r = [] := List.length_eq_zero_iff.1 (by omega)
    have hs := size_L x
    rw [hx] at hs
    simp only [List.append_nil] at hs
    simp only [impl_labelsOf.l0]
    rw [if_neg (by omega)]
    simp [res2, labs, jk]
  | succ n ih =>
    intro k acc p r hx hn hk hb
    obtain ⟨k, rfl⟩ : ∃ m, k = m + 1 := ⟨k - 1, by omega⟩
    have hs := size_L x
    rw [hx] at hs
    simp only [impl_labelsOf.l0]
    cases r with
    | nil =>
      simp only [List.append_nil] at hs
      rw [if_neg (by omega)]
      simp [res2, labs, jk]
    | cons c r =>
      simp only [List.length_append, List.length_cons] at hs hn hb
      have hc := byte_le c
      rw [bt_mid hx rfl, if_pos (by omega), if_pos (by omega)]
      simp (maxSteps := 10000000) (disch := omega) only [w64]
      have hL := labs.eq_2 c r
      have hJ := jk.eq_2 acc c r
      unfold res2
      rw [hL, hJ]
      clear hL hJ
      by_cases h0 : c.toNat = 0
      · rw [if_pos (by omega), if_pos h0, if_pos h0]
        by_cases hr : r = []
        · rw [if_pos hr]
          subst hr
          simp at hs
          simp; omega
        · rw [if_neg hr]
          have : r.length ≠ 0 := fun h => hr (List.length_eq_zero_iff.1 h)
          simp; omega
      · rw [if_neg (by omega), if_neg h0, if_neg h0]
        by_cases h63 : 63 < c.toNat
        · rw [if_pos (by omega), if_pos h63, if_pos h63]
        · rw [if_neg (by omega), if_neg h63, if_neg h63]
          by_cases hl : r.length < c.toNat
          · rw [if_pos (by omega), if_pos hl, if_pos hl]
          · rw [if_neg (by omega), if_neg hl, if_neg hl, if_pos (by omega), if_pos (by omega), if_pos (by omega), if_pos (by omega)]
            have e0 : ((p.length : Int) + 1).toNat = p.length + 1 := by omega
            have e0' : ((p.length : Int) + 1 + (c.toNat : Int)).toNat = p.length + 1 + c.toNat := by omega
            rw [e0, e0']
            have e1 : x.extract (p.length + 1) (p.length + 1 + c.toNat) = B (r.take c.toNat) := L_inj (by
              rw [L_extract, hx, L_B, drop_len]
              simp)
            have e2 : (p.length : Int) + (1 + (c.toNat : Int)) = ((p ++ c :: r.take c.toNat).length : Int) := by
              simp [List.length_take]; omega
            rw [e1, e2, ih k _ (p ++ c :: r.take c.toNat) (r.drop c.toNat) (by rw [hx]; simp) (by simp; omega) (by omega) (by simp; omega)]
            unfold res2
            cases labs (List.drop c.toNat r) <;> simp
theorem impl_labelsOf_eq (a : ByteArray) (k : Nat) (hk : 400 ≤ k) : impl_labelsOf.f k a = some (match names (L a) with | none => ((impl_labelsOf.f 400 a).getD ([], false)) | some ls => (ls, true)) ∧ (names (L a) = none → ((impl_labelsOf.f 400 a).getD ([], false)).2 = false) := by
  have hs := size_L a
  have key : ∀ k, 400 ≤ k → impl_labelsOf.f k a = if 255 < (L a).length then some ([], false) else some (res2 [] (L a)) := by
    intro k hk
    unfold impl_labelsOf.f
    by_cases h2 : 255 < (L a).length
    · rw [if_pos (by omega), if_pos h2]
    · rw [if_neg (by omega), if_neg h2]
      exact impl_labelsOf_l0 a (by omega) (L a).length k [] [] (L a) rfl (Nat.le_refl _) (by omega) (by simp; omega)
  rw [key k hk, key 400 (Nat.le_refl _)]
  unfold names
  by_cases h1 : (L a).length < 1
  · have h0 : L a = [] := List.length_eq_zero_iff.1 (by omega)
    rw [if_neg (by omega), if_pos (by omega), h0]
    simp [res2, labs, jk]
  · by_cases h2 : 255 < (L a).length
    · rw [if_pos h2, if_pos (by omega)]; simp
    · rw [if_neg h2, if_neg (by omega)]
      unfold res2
      cases labs (L a) <;> simp
theorem impl_labelsOf_some {a : ByteArray} {ls : List ByteArray} (h : names (L a) = some ls) (k : Nat) (hk : 400 ≤ k) : impl_labelsOf.f k a = some (ls, true) := by
  have := (impl_labelsOf_eq a k hk).1
  rw [h] at this
  exact this
theorem impl_labelsOf_none {a : ByteArray} (h : names (L a) = none) (k : Nat) (hk : 400 ≤ k) : impl_labelsOf.f k a = some (((impl_labelsOf.f 400 a).getD ([], false)).1, false) := by
  obtain ⟨h1, h2⟩ := impl_labelsOf_eq a k hk
  rw [h] at h1
  rw [h1]
  exact congrArg some (Prod.ext rfl (h2 h))

theorem impl_Labels_eq (a : ByteArray) (k : Nat) (hk : 400 ≤ k) : impl_Labels.f k a = some ((names (L a)).getD []) := by
  unfold impl_Labels.f
  cases h : names (L a) with
  | none => rw [impl_labelsOf_none h k hk]; simp
  | some ls => rw [impl_labelsOf_some h k hk]; simp

theorem laws_eqStringS_l0 (l : List ByteArray) (hl : l.length ≤ 4611686018427387904) : ∀ (d k : Nat) (i : Int), 0 ≤ i → i + d = l.length → d < k → laws_eqStringS.l0 k l l i = some true := by
  intro d
  induction d with
  | zero =>
    intro k i h0 h1 hk
    obtain ⟨k, rfl⟩ : ∃ m, k = m + 1 := ⟨k - 1, by omega⟩
    simp only [laws_eqStringS.l0]
    rw [if_neg (by omega)]
  | succ d ih =>
    intro k i h0 h1 hk
    obtain ⟨k, rfl⟩ : ∃ m, k = m + 1 := ⟨k - 1, by omega⟩
    simp only [laws_eqStringS.l0]
    rw [if_pos (by omega), if_pos h0, if_pos (by omega), if_pos trivial, w64 (by omega) (by omega)]
    exact ih k (i + 1) (by omega) (by omega) (by omega)
theorem laws_eqStringS_refl (l : List ByteArray) (hl : l.length ≤ 4611686018427387904) (k : Nat) (hk : l.length < k) : laws_eqStringS.f k l l = some true := by
  unfold laws_eqStringS.f
  rw [if_pos rfl]
  exact laws_eqStringS_l0 l hl l.length k 0 (by omega) (by omega) hk

theorem laws_markText_l0 : ∀ (d k : Nat) (x : Int) (s : ByteArray), 0 ≤ x → x ≤ 1000000000000000000 → x < 10 ^ d → d < k → s.size + d ≤ 1000 → ∃ r, laws_markText.l0 k x s = some r := by
  intro d
  induction d with
  | zero =>
    intro k x s h0 h18 h1 hk hs
    obtain ⟨k, rfl⟩ : ∃ m, k = m + 1 := ⟨k - 1, by omega⟩
    simp only [laws_markText.l0]
    rw [if_neg (by omega), if_pos (by omega)]
    exact ⟨_, rfl⟩
  | succ d ih =>
    intro k x s h0 h18 h1 hk hs
    obtain ⟨k, rfl⟩ : ∃ m, k = m + 1 := ⟨k - 1, by omega⟩
    simp only [laws_markText.l0, Option.bind_some]
    by_cases hx : x > 0
    · rw [if_pos hx]
      have hsz : (strOfNums [(wrap64 (48 + (Int.tmod x 10))) % 256]).size = 1 := by simp [strOfNums]; rfl
      rw [if_pos (by rw [hsz]; omega), Int.tdiv_eq_ediv_of_nonneg h0, w64 (by omega) (by omega)]
      have h10 : x / 10 < 10 ^ d := by
        have : (10 : Int) ^ (d + 1) = 10 ^ d * 10 := Int.pow_succ 10 d
        omega
      exact ih k (x / 10) _ (by omega) (by omega) h10 (by omega) (by rw [ByteArray.size_append, hsz]; omega)
    · rw [if_neg hx, if_pos (by omega)]
      exact ⟨_, rfl⟩
/-- The mark of a number. -/
def mt (n : Int) : ByteArray := (laws_markText.f 30 n).getD ByteArray.empty
theorem laws_markText_eq (n : Int) (h0 : 0 ≤ n) (h1 : n ≤ 1000000000000000000) (k : Nat) (hk : 30 ≤ k) : laws_markText.f k n = some (mt n) := by
  have h30 : laws_markText.f 30 n = some (mt n) := by
    unfold mt
    have : ∃ r, laws_markText.f 30 n = some r := by
      unfold laws_markText.f
      by_cases h : n ≤ 0
      · rw [if_pos h]; exact ⟨_, rfl⟩
      · rw [if_neg h]; exact laws_markText_l0 20 30 n _ h0 h1 (by omega) (by omega) (by show (0 : Nat) + 20 ≤ 1000; omega)
    obtain ⟨r, hr⟩ := this
    rw [hr]; rfl
  exact at_rounds (laws_markText.mono n) hk h30

def marks (n : Nat) (m : Int) : List ByteArray := (List.range n).map fun (j : Nat) => mt (m + (j : Int))
theorem marks_length (n : Nat) (m : Int) : (marks n m).length = n := by simp [marks]
theorem marks_succ (n : Nat) (m : Int) : marks (n + 1) m = marks n m ++ [mt (m + (n : Int))] := by simp [marks, List.range_succ]
theorem laws_markStringS_l0 (m : Int) (hm0 : 0 ≤ m) : ∀ (d k i : Nat) (r : List ByteArray), r.length = d → d + 30 < k → m + i + d ≤ 1000000000000000 → laws_markStringS.l0 k (marks i m ++ r) (m + i) i = some (m + i + d, marks (i + d) m) := by
  intro d
  induction d with
  | zero =>
    intro k i r hr hk hb
    obtain ⟨k, rfl⟩ : ∃ m, k = m + 1 := ⟨k - 1, by omega⟩
    obtain rfl : r = [] := List.length_eq_zero_iff.1 hr
    simp only [laws_markStringS.l0, List.append_nil]
    rw [if_neg (by rw [marks_length]; omega)]
    simp
  | succ d ih =>
    intro k i r hr hk hb
    obtain ⟨k, rfl⟩ : ∃ m, k = m + 1 := ⟨k - 1, by omega⟩
    obtain ⟨c, r, rfl⟩ : ∃ c t, r = c :: t := by cases r with | nil => simp at hr | cons c t => exact ⟨c, t, rfl⟩
    simp only [List.length_cons] at hr
    simp only [laws_markStringS.l0]
    rw [if_pos (by simp [marks_length]; omega), laws_markText_eq _ (by omega) (by omega) k (by omega)]
    simp only [Option.bind_some]
    rw [if_pos (by omega), w64 (by omega) (by omega), w64 (by omega) (by omega)]
    have e : (marks i m ++ c :: r).set (i : Int).toNat (mt (m + i)) = marks (i + 1) m ++ r := by
      rw [marks_succ, Int.toNat_natCast, List.set_append_right _ _ (by rw [marks_length]; exact Nat.le_refl _), marks_length]
      simp
    rw [e]
    have := ih k (i + 1) r (by omega) (by omega) (by omega)
    rw [show m + ((i + 1 : Nat) : Int) = m + (i : Int) + 1 from by omega, show ((i + 1 : Nat) : Int) = (i : Int) + 1 from by omega] at this
    rw [this]
    simp only [Option.some.injEq, Prod.mk.injEq]
    exact ⟨by omega, by rw [show i + 1 + d = i + (d + 1) from by omega]⟩
theorem laws_markStringS_eq (l : List ByteArray) (m : Int) (hm0 : 0 ≤ m) (k : Nat) (hk : l.length + 30 < k) (hb : m + l.length ≤ 1000000000000000) : laws_markStringS.f k l m = some (m + l.length, marks l.length m) := by
  have := laws_markStringS_l0 m hm0 l.length k 0 l rfl hk (by omega)
  unfold laws_markStringS.f
  simpa [marks] using this

theorem rdOf_marks (n : Nat) (m : Int) (i : Nat) (h : i < n) (d : ByteArray) : rdOf d (marks n m) (i : Int) = mt (m + i) := by
  simp [rdOf, marks, List.getD_eq_getElem?_getD, h]
theorem laws_heldStringS_l0 (n : Nat) (m : Int) (hm0 : 0 ≤ m) (hb : m + n ≤ 1000000000000000) : ∀ (d k i : Nat), i + d = n → d + 30 < k → laws_heldStringS.l0 k (marks n m) (m + i) i = some (m + n) := by
  intro d
  induction d with
  | zero =>
    intro k i hr hk
    obtain ⟨k, rfl⟩ : ∃ m, k = m + 1 := ⟨k - 1, by omega⟩
    simp only [laws_heldStringS.l0]
    rw [if_neg (by rw [marks_length]; omega)]
    simp only [Option.some.injEq]
    omega
  | succ d ih =>
    intro k i hr hk
    obtain ⟨k, rfl⟩ : ∃ m, k = m + 1 := ⟨k - 1, by omega⟩
    simp only [laws_heldStringS.l0]
    rw [if_pos (by rw [marks_length]; omega), if_pos (by omega), laws_markText_eq _ (by omega) (by omega) k (by omega)]
    simp only [Option.bind_some]
    rw [rdOf_marks n m i (by omega), if_pos rfl, w64 (by omega) (by omega), w64 (by omega) (by omega)]
    have := ih k (i + 1) (by omega) (by omega)
    rw [show m + ((i + 1 : Nat) : Int) = m + (i : Int) + 1 from by omega, show ((i + 1 : Nat) : Int) = (i : Int) + 1 from by omega] at this
    exact this
theorem laws_heldStringS_eq (n : Nat) (m : Int) (hm0 : 0 ≤ m) (k : Nat) (hk : n + 30 < k) (hb : m + n ≤ 1000000000000000) : laws_heldStringS.f k (marks n m) m = some (m + n) := by
  have := laws_heldStringS_l0 n m hm0 hb n k 0 (by omega) hk
  unfold laws_heldStringS.f
  simpa using this

theorem FnExactLabels : laws_FnExactLabels.Pure := by
  intro a _
  refine ⟨400, ?_⟩
  unfold laws_FnExactLabels.f
  by_cases h : (a.size : Int) > 1048576
  · rw [if_pos h]
  · rw [if_neg h, spec_Labels_eq a 400 (Nat.le_refl _), impl_Labels_eq a 400 (Nat.le_refl _)]
    have hlen : ((names (L a)).getD []).length ≤ 254 := by
      cases hn : names (L a) with
      | none => simp
      | some ls => simpa using names_count hn
    generalize (names (L a)).getD [] = l at hlen ⊢
    simp only [Option.bind_some]
    rw [laws_eqStringS_refl l (by omega) 400 (by omega)]
    simp only [Option.bind_some, if_true]
    rw [laws_markStringS_eq l 1 (by omega) 400 (by omega) (by omega)]
    simp only [Option.bind_some]
    rw [laws_heldStringS_eq l.length 1 (by omega) 400 (by omega) (by omega)]
    simp only [Option.bind_some]
    have h0 : ¬ (1 + (l.length : Int) < 0) := by omega
    simp [h0]

end Go.Proofs.Ytelmbgholdnaaaa.Pure
