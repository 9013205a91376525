/- The pure statement of FnExactNameOK: what the program's function computes is what the reference computes, at every argument. No condition beyond the statement's own. -/
import Derived.Test.YtelmbgholdnaaaaPFnExactNameOKx1
import Derived.Test.YtelmbgholdnaaaaBase
namespace Go.Proofs.Ytelmbgholdnaaaa.Pure
open Go.RowKit Go.Proofs.Ytelmbgholdnaaaa.PFnExactNameOK Go.Proofs.Ytelmbgholdnaaaa.Base Go.Proofs.YtelmbgholdnaaaaW.PrintWords Go.Proofs.YtelmbgholdnaaaaW.PrintLast Go.Proofs.YtelmbgholdnaaaaW.PrintMore
set_option linter.unusedVariables false
set_option linter.unusedSimpArgs false
theorem spec_l01Split_l0 : ∀ (n k : Nat) (acc : List ByteArray) (x : ByteArray), x.size ≤ n → n < k → acc.length + x.size ≤ 300 → spec_l01Split.l0 k acc x = some (res acc (labs (L x))) := by
  intro n
  induction n with
  | zero =>
    intro k acc x hn hk hb
    obtain ⟨k, rfl⟩ : ∃ m, k = m + 1 := ⟨k - 1, by omega⟩
    have hs := size_L x
    have hx : L x = [] := List.length_eq_zero_iff.1 (by omega)
    simp only [spec_l01Split.l0, toL]
    rw [if_pos hx, hx]
    simp [labs, res]
  | succ n ih =>
    intro k acc x hn hk hb
    obtain ⟨k, rfl⟩ : ∃ m, k = m + 1 := ⟨k - 1, by omega⟩
    have hs := size_L x
    simp only [spec_l01Split.l0, toL]
    cases hx : L x with
    | nil => rw [if_pos rfl]; simp [labs, res]
    | cons c r =>
      rw [hx] at hs
      simp only [List.length_cons] at hs
      have hc := byte_le c
      rw [bt_cons hx, if_neg (by simp), if_pos (by omega)]
      simp (maxSteps := 10000000) (disch := omega) only [w64]
      rw [labs]
      by_cases h0 : c.toNat = 0
      · rw [if_pos (by omega), if_pos h0]
        by_cases hr : r = []
        · rw [if_pos (by subst hr; simp at hs; omega), if_pos hr]; simp [res]
        · rw [if_neg (by intro h; exact hr (List.length_eq_zero_iff.1 (by omega))), if_neg hr]; simp [res]
      · rw [if_neg (by omega), if_neg h0]
        by_cases h63 : 63 < c.toNat
        · rw [if_pos (by omega), if_pos h63]; simp [res]
        · rw [if_neg (by omega), if_neg h63]
          by_cases hl : r.length < c.toNat
          · rw [if_pos (by omega), if_pos hl]; simp [res]
          · rw [if_neg (by omega), if_neg hl, if_pos (by omega), if_pos (by omega), if_pos (by omega), if_pos (by omega)]
            have e0 : ((c.toNat : Int) + 1).toNat = c.toNat + 1 := by omega
            rw [e0]
            have e1 : x.extract 1 (c.toNat + 1) = B (r.take c.toNat) := L_inj (by rw [L_extract, hx, L_B]; simp)
            have e2 : L (x.extract (c.toNat + 1) x.size) = r.drop c.toNat := by rw [L_extract, hx, hs]; simp [List.take_of_length_le]
            have e3 : (x.extract (c.toNat + 1) x.size).size = r.length - c.toNat := by rw [size_L, e2]; simp
            rw [ih k _ _ (by omega) (by omega) (by simp; omega), e1, e2, res_map]
theorem spec_l01Split_eq (a : ByteArray) (k : Nat) (hk : 400 ≤ k) : spec_l01Split.f k a = some (res [] (names (L a))) := by
  obtain ⟨k, rfl⟩ : ∃ m, k = m + 1 := ⟨k - 1, by omega⟩
  have hs := size_L a
  unfold spec_l01Split.f names
  simp only [Option.bind_some, spec_l01Split.j0]
  by_cases h1 : (L a).length < 1
  · rw [if_pos (by omega), if_pos trivial, if_pos (by omega)]; simp [res]
  · rw [if_neg (by omega)]
    by_cases h2 : 255 < (L a).length
    · rw [if_pos (by simp; omega), if_pos (by omega)]; simp [res]
    · rw [if_neg (by simp; omega), if_neg (by omega)]
      exact spec_l01Split_l0 a.size k [] a (Nat.le_refl _) (by omega) (by simp; omega)

theorem spec_NameOK_eq (a : ByteArray) (k : Nat) (hk : 400 ≤ k) : spec_NameOK.f k a = some (names (L a)).isSome := by
  unfold spec_NameOK.f
  rw [spec_l01Split_eq a k hk]
  cases names (L a) <;> simp [res]

theorem impl_labelsOf_l0 (x : ByteArray) (hx255 : x.size ≤ 255) : ∀ (n k : Nat) (acc : List ByteArray) (p r : List UInt8), L x = p ++ r → r.length ≤ n → n < k → acc.length + r.length ≤ 300 → impl_labelsOf.l0 k x acc (p.length : Int) = some (res2 acc r) := by
  intro n
  induction n with
  | zero =>
    intro k acc p r hx hn hk hb
    obtain ⟨k, rfl⟩ : ∃ m, k = m + 1 := ⟨k - 1, by omega⟩
    obtain rfl : r = [] := List.length_eq_zero_iff.1 (by omega)
    have hs := size_L x
    rw [hx] at hs
    simp only [List.append_nil] at hs
    simp only [impl_labelsOf.l0]
    rw [if_neg (by omega)]
    simp [res2, labs, jk]
  | succ n ih =>
    intro k acc p r hx hn hk hb
    obtain ⟨k, rfl⟩ : ∃ m, k = m + 1 := ⟨k - 1, by omega⟩
    have hs := size_L x
    rw [hx] at hs
    simp only [impl_labelsOf.l0]
    cases r with
    | nil =>
      simp only [List.append_nil] at hs
      rw [if_neg (by omega)]
      simp [res2, labs, jk]
    | cons c r =>
      simp only [List.length_append, List.length_cons] at hs hn hb
      have hc := byte_le c
      rw [bt_mid hx rfl, if_pos (by omega), if_pos (by omega)]
      simp (maxSteps := 10000000) (disch := omega) only [w64]
      have hL := labs.eq_2 c r
      have hJ := jk.eq_2 acc c r
      unfold res2
      rw [hL, hJ]
      clear hL hJ
      by_cases h0 : c.toNat = 0
      · rw [if_pos (by omega), if_pos h0, if_pos h0]
        by_cases hr : r = []
        · rw [if_pos hr]
          subst hr
          simp at hs
          simp; omega
        · rw [if_neg hr]
          have : r.length ≠ 0 := fun h => hr (List.length_eq_zero_iff.1 h)
          simp; omega
      · rw [if_neg (by omega), if_neg h0, if_neg h0]
        by_cases h63 : 63 < c.toNat
        · rw [if_pos (by omega), if_pos h63, if_pos h63]
        · rw [if_neg (by omega), if_neg h63, if_neg h63]
          by_cases hl : r.length < c.toNat
          · rw [if_pos (by omega), if_pos hl, if_pos hl]
          · rw [if_neg (by omega), if_neg hl, if_neg hl, if_pos (by omega), if_pos (by omega), if_pos (by omega), if_pos (by omega)]
            have e0 : ((p.length : Int) + 1).toNat = p.length + 1 := by omega
            have e0' : ((p.length : Int) + 1 + (c.toNat : Int)).toNat = p.length + 1 + c.toNat := by omega
            rw [e0, e0']
            have e1 : x.extract (p.length + 1) (p.length + 1 + c.toNat) = B (r.take c.toNat) := L_inj (by
              rw [L_extract, hx, L_B, drop_len]
              simp)
            have e2 : (p.length : Int) + (1 + (c.toNat : Int)) = ((p ++ c :: r.take c.toNat).length : Int) := by
              simp [List.length_take]; omega
            rw [e1, e2, ih k _ (p ++ c :: r.take c.toNat) (r.drop c.toNat) (by rw [hx]; simp) (by simp; omega) (by omega) (by simp; omega)]
            unfold res2
            cases labs (List.drop c.toNat r) <;> simp
theorem impl_labelsOf_eq (a : ByteArray) (k : Nat) (hk : 400 ≤ k) : impl_labelsOf.f k a = some (match names (L a) with | none => ((impl_labelsOf.f 400 a).getD ([], false)) | some ls => (ls, true)) ∧ (names (L a) = none → ((impl_labelsOf.f 400 a).getD ([], false)).2 = false) := by
  have hs := size_L a
  have key : ∀ k, 400 ≤ k → impl_labelsOf.f k a = if 255 < (L a).length then some ([], false) else some (res2 [] (L a)) := by
    intro k hk
    unfold impl_labelsOf.f
    by_cases h2 : 255 < (L a).length
    · rw [if_pos (by omega), if_pos h2]
    · rw [if_neg (by omega), if_neg h2]
      exact impl_labelsOf_l0 a (by omega) (L a).length k [] [] (L a) rfl (Nat.le_refl _) (by omega) (by simp; omega)
  rw [key k hk, key 400 (Nat.le_refl _)]
  unfold names
  by_cases h1 : (L a).length < 1
  · have h0 : L a = [] := List.length_eq_zero_iff.1 (by omega)
    rw [if_neg (by omega), if_pos (by omega), h0]
    simp [res2, labs, jk]
  · by_cases h2 : 255 < (L a).length
    · rw [if_pos h2, if_pos (by omega)]; simp
    · rw [if_neg h2, if_neg (by omega)]
      unfold res2
      cases labs (L a) <;> simp
theorem impl_labelsOf_some {a : ByteArray} {ls : List ByteArray} (h : names (L a) = some ls) (k : Nat) (hk : 400 ≤ k) : impl_labelsOf.f k a = some (ls, true) := by
  have := (impl_labelsOf_eq a k hk).1
  rw [h] at this
  exact this
theorem impl_labelsOf_none {a : ByteArray} (h : names (L a) = none) (k : Nat) (hk : 400 ≤ k) : impl_labelsOf.f k a = some (((impl_labelsOf.f 400 a).getD ([], false)).1, false) := by
  obtain ⟨h1, h2⟩ := impl_labelsOf_eq a k hk
  rw [h] at h1
  rw [h1]
  exact congrArg some (Prod.ext rfl (h2 h))

theorem impl_NameOK_eq (a : ByteArray) (k : Nat) (hk : 400 ≤ k) : impl_NameOK.f k a = some (names (L a)).isSome := by
  unfold impl_NameOK.f
  cases h : names (L a) with
  | none => rw [impl_labelsOf_none h k hk]; simp
  | some ls => rw [impl_labelsOf_some h k hk]; simp

theorem FnExactNameOK : laws_FnExactNameOK.Pure := by
  intro a _
  refine ⟨400, ?_⟩
  unfold laws_FnExactNameOK.f
  by_cases h : (a.size : Int) > 1048576
  · rw [if_pos h]
  · rw [if_neg h, spec_NameOK_eq a 400 (Nat.le_refl _), impl_NameOK_eq a 400 (Nat.le_refl _)]
    simp

end Go.Proofs.Ytelmbgholdnaaaa.Pure
