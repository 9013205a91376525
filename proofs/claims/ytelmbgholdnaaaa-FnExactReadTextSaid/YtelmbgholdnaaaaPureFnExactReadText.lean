/- The pure statement of FnExactReadText: what the program's function computes is what the reference computes, at every argument. No condition beyond the statement's own. -/
import Derived.Test.YtelmbgholdnaaaaPFnExactReadTextx2
import Derived.Test.YtelmbgholdnaaaaBase
import Derived.Test.YtelmbgholdnaaaaBaseText
namespace Go.Proofs.Ytelmbgholdnaaaa.Pure
open Go.RowKit Go.Proofs.Ytelmbgholdnaaaa.PFnExactReadText Go.Proofs.Ytelmbgholdnaaaa.Base Go.Proofs.YtelmbgholdnaaaaW.PrintWords Go.Proofs.YtelmbgholdnaaaaW.PrintLast Go.Proofs.YtelmbgholdnaaaaW.PrintMore
set_option linter.unusedVariables false
set_option linter.unusedSimpArgs false
-- base: BaseText
theorem spec_l01Digit_eq (c : UInt8) : spec_l01Digit.f (c.toNat : Int) = some (decide (isDigit c)) := by
  unfold spec_l01Digit.f
  by_cases hd : isDigit c
  · rw [decide_eq_true hd]
    unfold isDigit at hd
    rw [if_pos (by omega), decide_eq_true (by omega)]
  · rw [decide_eq_false hd]
    unfold isDigit at hd
    by_cases h : (c.toNat : Int) ≥ 48
    · rw [if_pos h, decide_eq_false (by omega)]
    · rw [if_neg h]
theorem spec_l01Escape_eq (a : ByteArray) (k : Nat) (hk : 1 ≤ k) : spec_l01Escape.f k a = some (match escV (L a) with | none => (0, 0) | some (v, n) => (v, (n : Int))) := by
  obtain ⟨k, rfl⟩ : ∃ m, k = m + 1 := ⟨k - 1, by omega⟩
  have hs := size_L a
  unfold spec_l01Escape.f
  rw [toL]
  cases ha : L a with
  | nil => rw [if_pos rfl]; simp [escV]
  | cons c t =>
    rw [ha] at hs
    simp only [List.length_cons] at hs
    rw [if_neg (by simp), if_pos (by omega), bt_cons ha, spec_l01Digit_eq]
    simp only [Option.bind_some]
    unfold escV
    by_cases hc : isDigit c
    · simp only [hc, decide_true, not_true_eq_false, if_false, if_true]
      cases t with
      | nil =>
        simp only [List.length_nil] at hs
        rw [if_pos (by omega)]
        simp [spec_l01Escape.j0]
      | cons d u =>
        cases u with
        | nil =>
          simp only [List.length_cons, List.length_nil] at hs
          rw [if_pos (by omega)]
          simp [spec_l01Escape.j0]
        | cons e u =>
          simp only [List.length_cons] at hs
          have b1 : bt a 1 = (d.toNat : Int) := bt_mid (p := [c]) ha rfl
          have b2 : bt a 2 = (e.toNat : Int) := bt_mid (p := [c, d]) ha rfl
          have hcb := byte_le c
          have hdb := byte_le d
          have heb := byte_le e
          rw [if_neg (by omega), if_pos (by omega), b1, spec_l01Digit_eq]
          simp only [Option.bind_some]
          by_cases hd : isDigit d
          · simp only [hd, decide_true, if_true, true_and]
            rw [if_pos (by omega), b2, spec_l01Digit_eq]
            simp only [Option.bind_some]
            by_cases he : isDigit e
            · simp only [he, decide_true, if_true, spec_l01Escape.j0, Bool.not_true, Bool.false_eq_true, if_false]
              rw [if_pos (by omega), if_pos (by omega), if_pos (by omega), bt_cons ha, b1, b2]
              have hc' := hc
              have hd' := hd
              have he' := he
              unfold isDigit at hc' hd' he'
              rw [Int.emod_eq_of_lt (a := (c.toNat : Int) - 48) (by omega) (by omega), Int.emod_eq_of_lt (a := (d.toNat : Int) - 48) (by omega) (by omega), Int.emod_eq_of_lt (a := (e.toNat : Int) - 48) (by omega) (by omega)]
              by_cases h : ((c.toNat : Int) - 48) * 100 + ((d.toNat : Int) - 48) * 10 + ((e.toNat : Int) - 48) > 255
              · rw [if_pos h, if_pos h]
              · rw [if_neg h, if_neg h, Int.emod_eq_of_lt (by omega) (by omega)]
                simp
            · simp [he, spec_l01Escape.j0]
          · simp [hd, spec_l01Escape.j0]
    · simp [hc]

-- base: BaseText
theorem spec_ReadText_l0 (x : ByteArray) (hx0 : x.size ≤ 1048576) : ∀ (n k : Nat) (acc : List Int) (p r : List UInt8), L x = p ++ r → r.length ≤ n → n + 1 < k → acc.length + r.length ≤ 1048576 → spec_ReadText.l0 k x acc (p.length : Int) = some (rres acc (rtext r)) := by
  intro n
  induction n with
  | zero =>
    intro k acc p r hx hn hk hb
    obtain ⟨k, rfl⟩ : ∃ m, k = m + 1 := ⟨k - 1, by omega⟩
    obtain rfl : r = [] := List.length_eq_zero_iff.1 (by omega)
    have hs := size_L x
    rw [hx] at hs
    simp only [List.append_nil] at hs
    simp only [spec_ReadText.l0]
    rw [if_neg (by omega)]
    simp [rtext, rres]
  | succ n ih =>
    intro k acc p r hx hn hk hb
    obtain ⟨k, rfl⟩ : ∃ m, k = m + 1 := ⟨k - 1, by omega⟩
    have hs := size_L x
    rw [hx] at hs
    simp only [spec_ReadText.l0]
    cases r with
    | nil =>
      simp only [List.append_nil] at hs
      rw [if_neg (by omega)]
      simp [rtext, rres]
    | cons c r =>
      simp only [List.length_append, List.length_cons] at hs hn hb
      have hc := byte_le c
      rw [if_pos (by omega), if_pos (by omega), bt_mid hx rfl]
      simp (maxSteps := 10000000) (disch := omega) only [w64]
      rw [rtext]
      by_cases h92 : c.toNat = 92
      · rw [if_pos (by omega), if_pos h92, if_pos (by omega), if_pos (by omega)]
        have e0 : ((p.length : Int) + 1).toNat = p.length + 1 := by omega
        have e1 : L (x.extract (p.length + 1) x.size) = r := by
          rw [L_extract, hx, drop_len, hs]
          simp only [List.drop_succ_cons, List.drop_zero]
          exact List.take_of_length_le (by omega)
        rw [e0, spec_l01Escape_eq _ k (by omega), e1]
        cases hv : escV r with
        | none => simp [rres]
        | some q =>
          obtain ⟨v, m⟩ := q
          have hp := escV_pos hv
          simp only [Option.bind_some]
          rw [if_neg (by omega), if_pos (by omega)]
          have e2 : wrap64 (wrap64 ((p.length : Int) + (m : Int)) + 1) = ((p ++ c :: r.take m).length : Int) := by
            simp (maxSteps := 10000000) (disch := omega) only [w64]
            simp [List.length_take]
            omega
          rw [e2, ih k _ (p ++ c :: r.take m) (r.drop m) (by rw [hx]; simp) (by simp; omega) (by omega) (by simp; omega), rres_map]
      · rw [if_neg (by omega), if_neg h92, if_pos (by omega)]
        have e2 : (p.length : Int) + 1 = ((p ++ [c]).length : Int) := by simp
        rw [e2, ih k _ (p ++ [c]) r (by rw [hx]; simp) (by omega) (by omega) (by simp; omega), rres_map]
theorem spec_ReadText_eq (a : ByteArray) (ha : a.size ≤ 1048576) (k : Nat) (hk : 1048580 ≤ k) : spec_ReadText.f k a = some (rres [] (rtext (L a))) := by
  have hs := size_L a
  unfold spec_ReadText.f
  exact spec_ReadText_l0 a ha (L a).length k [] [] (L a) rfl (Nat.le_refl _) (by omega) (by simp; omega)

-- base: BaseText
theorem impl_escaped_eq (x : ByteArray) (hx0 : x.size ≤ 1048576) (p r : List UInt8) (q : UInt8) (hx : L x = p ++ q :: r) (k : Nat) (hk : 6 ≤ k) : ∃ j1 j2, impl_escaped.f k x (p.length : Int) = some (match escV r with | none => (j1, j2, false) | some (v, n) => (v, ((p.length + 1 + n : Nat) : Int), true)) := by
  obtain ⟨k, rfl⟩ : ∃ m, k = m + 6 := ⟨k - 6, by omega⟩
  have hs := size_L x
  rw [hx] at hs
  simp only [List.length_append, List.length_cons] at hs
  unfold impl_escaped.f
  simp (maxSteps := 10000000) (disch := omega) only [w64]
  cases r with
  | nil =>
    simp only [List.length_nil] at hs
    rw [if_pos (by omega)]
    exact ⟨0, 0, by simp [escV]⟩
  | cons c t =>
    simp only [List.length_cons] at hs
    have hcb := byte_le c
    have b1 : bt x ((p.length : Int) + 1) = (c.toNat : Int) := bt_mid (p := p ++ [q]) (c := c) (r := t) (by rw [hx]; simp) (by simp)
    rw [if_neg (by omega), if_pos (by omega), if_pos (by omega), b1]
    unfold escV
    by_cases hc : isDigit c
    · have hc' := hc
      unfold isDigit at hc'
      rw [if_neg (by omega)]
      rw [impl_escaped.j0]
      rw [if_neg (by simp; omega)]
      simp (maxSteps := 10000000) (disch := omega) only [w64]
      simp only [hc, not_true_eq_false, if_false]
      match t, hs, hx with
      | [], hs, hx =>
        simp only [List.length_nil] at hs
        rw [if_pos (by omega)]
        exact ⟨0, 0, rfl⟩
      | [d], hs, hx =>
        simp only [List.length_cons, List.length_nil] at hs
        rw [if_pos (by omega)]
        exact ⟨0, 0, rfl⟩
      | d :: e :: u, hs, hx =>
        simp only [List.length_cons] at hs
        have hdb := byte_le d
        have heb := byte_le e
        have b2 : bt x ((p.length : Int) + 1 + 1) = (d.toNat : Int) := bt_mid (p := p ++ [q, c]) (c := d) (r := e :: u) (by rw [hx]; simp) (by simp; omega)
        have b3 : bt x ((p.length : Int) + 1 + 1 + 1) = (e.toNat : Int) := bt_mid (p := p ++ [q, c, d]) (c := e) (r := u) (by rw [hx]; simp) (by simp; omega)
        rw [if_neg (by omega)]
        rw [impl_escaped.l0]
        simp (maxSteps := 10000000) (disch := omega) only [w64]
        rw [if_pos (by omega), if_pos (by omega), if_pos (by omega), b1, if_neg (by omega), if_neg (by omega)]
        rw [Int.emod_eq_of_lt (a := (c.toNat : Int) - 48) (by omega) (by omega)]
        rw [impl_escaped.l0]
        simp (maxSteps := 10000000) (disch := omega) only [w64]
        rw [if_pos (by omega), if_pos (by omega), if_pos (by omega), b2]
        by_cases hd : isDigit d
        · have hd' := hd
          unfold isDigit at hd'
          rw [if_neg (by omega), if_neg (by omega), Int.emod_eq_of_lt (a := (d.toNat : Int) - 48) (by omega) (by omega)]
          rw [impl_escaped.l0]
          simp (maxSteps := 10000000) (disch := omega) only [w64]
          rw [if_pos (by omega), if_pos (by omega), if_pos (by omega), b3]
          by_cases he : isDigit e
          · have he' := he
            unfold isDigit at he'
            rw [if_neg (by omega), if_neg (by omega), Int.emod_eq_of_lt (a := (e.toNat : Int) - 48) (by omega) (by omega)]
            rw [impl_escaped.l0]
            simp (maxSteps := 10000000) (disch := omega) only [w64]
            rw [if_neg (by omega)]
            simp only [hd, he, and_self, if_true]
            by_cases h : ((c.toNat : Int) - 48) * 100 + ((d.toNat : Int) - 48) * 10 + ((e.toNat : Int) - 48) > 255
            · rw [if_pos h, show decide (((0 * 10 + ((c.toNat : Int) - 48)) * 10 + ((d.toNat : Int) - 48)) * 10 + ((e.toNat : Int) - 48) ≤ 255) = false from decide_eq_false (by omega)]
              exact ⟨_, _, rfl⟩
            · rw [if_neg h]
              refine ⟨0, 0, ?_⟩
              rw [show decide (((0 * 10 + ((c.toNat : Int) - 48)) * 10 + ((d.toNat : Int) - 48)) * 10 + ((e.toNat : Int) - 48) ≤ 255) = true from decide_eq_true (by omega), Int.emod_eq_of_lt (by omega) (by omega)]
              simp only [Option.some.injEq, Prod.mk.injEq, and_true]
              constructor <;> omega
          · unfold isDigit at he
            refine ⟨0, 0, ?_⟩
            have : ¬ (isDigit d ∧ isDigit e) := by unfold isDigit; omega
            rw [if_neg this]
            by_cases h48 : (e.toNat : Int) < 48
            · rw [if_pos h48]
            · rw [if_neg h48, if_pos (by omega)]
        · unfold isDigit at hd
          refine ⟨0, 0, ?_⟩
          have : ¬ (isDigit d ∧ isDigit e) := by unfold isDigit; omega
          rw [if_neg this]
          by_cases h48 : (d.toNat : Int) < 48
          · rw [if_pos h48]
          · rw [if_neg h48, if_pos (by omega)]
    · unfold isDigit at hc
      have hnc : ¬ isDigit c := hc
      refine ⟨0, 0, ?_⟩
      simp only [hnc, not_false_eq_true, if_true]
      rw [impl_escaped.j0, impl_escaped.j0]
      simp (maxSteps := 10000000) (disch := omega) only [w64]
      by_cases h48 : (c.toNat : Int) < 48
      · rw [if_pos h48]
        simp; omega
      · rw [if_neg h48, if_pos (by simp; omega)]
        simp; omega

-- base: BaseText
theorem impl_ReadText_l0 (x : ByteArray) (hx0 : x.size ≤ 1048576) : ∀ (n k : Nat) (acc : List Int) (p r : List UInt8), L x = p ++ r → r.length ≤ n → n + 7 < k → acc.length + r.length ≤ 1048576 → impl_ReadText.l0 k x acc (p.length : Int) = some (rres acc (rtext r)) := by
  intro n
  induction n with
  | zero =>
    intro k acc p r hx hn hk hb
    obtain ⟨k, rfl⟩ : ∃ m, k = m + 1 := ⟨k - 1, by omega⟩
    obtain rfl : r = [] := List.length_eq_zero_iff.1 (by omega)
    have hs := size_L x
    rw [hx] at hs
    simp only [List.append_nil] at hs
    simp only [impl_ReadText.l0]
    rw [if_neg (by omega)]
    simp [rtext, rres]
  | succ n ih =>
    intro k acc p r hx hn hk hb
    obtain ⟨k, rfl⟩ : ∃ m, k = m + 1 := ⟨k - 1, by omega⟩
    have hs := size_L x
    rw [hx] at hs
    simp only [impl_ReadText.l0]
    cases r with
    | nil =>
      simp only [List.append_nil] at hs
      rw [if_neg (by omega)]
      simp [rtext, rres]
    | cons c r =>
      simp only [List.length_append, List.length_cons] at hs hn hb
      have hc := byte_le c
      rw [if_pos (by omega), if_pos (by omega), bt_mid hx rfl]
      simp (maxSteps := 10000000) (disch := omega) only [w64]
      rw [rtext]
      by_cases h92 : c.toNat = 92
      · rw [if_pos (by omega), if_pos h92]
        obtain ⟨j1, j2, hj⟩ := impl_escaped_eq x hx0 p r c hx k (by omega)
        rw [hj]
        cases hv : escV r with
        | none => simp [rres]
        | some q =>
          obtain ⟨v, m⟩ := q
          have hp := escV_pos hv
          simp only [Option.bind_some, if_true]
          rw [if_pos (by omega)]
          have e2 : ((p.length + 1 + m : Nat) : Int) = ((p ++ c :: r.take m).length : Int) := by
            simp [List.length_take]
            omega
          rw [e2, ih k _ (p ++ c :: r.take m) (r.drop m) (by rw [hx]; simp) (by simp; omega) (by omega) (by simp; omega), rres_map]
      · rw [if_neg (by omega), if_neg h92, if_pos (by omega)]
        have e2 : (p.length : Int) + 1 = ((p ++ [c]).length : Int) := by simp
        rw [e2, ih k _ (p ++ [c]) r (by rw [hx]; simp) (by omega) (by omega) (by simp; omega), rres_map]
theorem impl_ReadText_eq (a : ByteArray) (ha : a.size ≤ 1048576) (k : Nat) (hk : 1048590 ≤ k) : impl_ReadText.f k a = some (rres [] (rtext (L a))) := by
  have hs := size_L a
  unfold impl_ReadText.f
  exact impl_ReadText_l0 a ha (L a).length k [] [] (L a) rfl (Nat.le_refl _) (by omega) (by simp; omega)

theorem FnExactReadText : laws_FnExactReadText.Pure := by
  intro a _
  have key : ∀ k, 1048590 ≤ k → laws_FnExactReadText.f k a = some true := by
    intro k hk
    unfold laws_FnExactReadText.f
    by_cases h : (a.size : Int) > 1048576
    · rw [if_pos h]
    · rw [if_neg h, spec_ReadText_eq a (by omega) k (by omega), impl_ReadText_eq a (by omega) k (by omega)]
      simp
  exact ⟨1048590, key _ (Nat.le_refl _)⟩

end Go.Proofs.Ytelmbgholdnaaaa.Pure
