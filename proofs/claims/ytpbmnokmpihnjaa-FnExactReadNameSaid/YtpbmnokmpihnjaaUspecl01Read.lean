/- What spec_l01Read computes, in plain words, for enough rounds. Conditions: bounds on the sizes of its arguments, as each statement says. -/
import Derived.Test.YtpbmnokmpihnjaaFx1042
import Derived.Test.YtpbmnokmpihnjaaBase
import Derived.Test.YtpbmnokmpihnjaaBaseRead
import Derived.Test.YtpbmnokmpihnjaaUspecl01Escape
namespace Go.Proofs.Ytpbmnokmpihnjaa.Pure
open Go.RowKit Go.Proofs.Ytpbmnokmpihnjaa.F Go.Proofs.Ytpbmnokmpihnjaa.Base Go.Proofs.YtpbmnokmpihnjaaW.PrintWords Go.Proofs.YtpbmnokmpihnjaaW.PrintLast Go.Proofs.YtpbmnokmpihnjaaW.PrintMore
set_option linter.unusedVariables false
set_option linter.unusedSimpArgs false
-- base: BaseRead
def rres1 (acc : List ByteArray) : Except Int (List ByteArray × Bool) → List ByteArray × Bool × Int
  | .error c => ([], false, c)
  | .ok (ls, d) => (acc ++ ls, d, 0)
theorem rres1_cons (acc : List ByteArray) (s : ByteArray) (q : Except Int (List ByteArray × Bool)) : rres1 acc (rcons s q) = rres1 (acc ++ [s]) q := by
  cases q <;> simp [rres1, rcons]
theorem spec_l01Read_l0 (x : ByteArray) (hx0 : x.size ≤ 1048576) : ∀ (n k : Nat) (acc : List ByteArray) (cur : List Int) (dot : Bool) (p r : List UInt8), L x = p ++ r → r.length ≤ n → n + 1 < k → acc.length + r.length ≤ 1048576 → cur.length + r.length ≤ 1048576 → spec_l01Read.l0 k x acc cur (!dot) (p.length : Int) = some (rres1 acc (rn cur dot r)) := by
  intro n
  induction n with
  | zero =>
    intro k acc cur dot p r hx hn hk hb hb2
    obtain ⟨k, rfl⟩ : ∃ m, k = m + 1 := ⟨k - 1, by omega⟩
    obtain rfl : r = [] := List.length_eq_zero_iff.1 (by omega)
    have hs := size_L x
    rw [hx] at hs
    simp only [List.append_nil] at hs
    rw [spec_l01Read.l0, if_neg (by omega), rn]
    cases dot with
    | true => simp [rres1]
    | false =>
      rw [if_pos (show (!false) = true from rfl), if_neg (show ¬ (false = true) by simp)]
      by_cases h1 : cur.length < 1
      · rw [if_pos (by omega), if_pos (.inl h1)]; rfl
      · rw [if_neg (by omega)]
        by_cases h2 : 63 < cur.length
        · rw [if_pos (by omega), if_pos (.inr h2)]; rfl
        · rw [if_neg (by omega), if_neg (show ¬ (cur.length < 1 ∨ 63 < cur.length) by omega), if_pos (by omega)]; rfl
  | succ n ih =>
    intro k acc cur dot p r hx hn hk hb hb2
    cases r with
    | nil =>
      obtain ⟨k, rfl⟩ : ∃ m, k = m + 1 := ⟨k - 1, by omega⟩
      have hs := size_L x
      rw [hx] at hs
      simp only [List.append_nil] at hs
      rw [spec_l01Read.l0, if_neg (by omega), rn]
      cases dot with
      | true => simp [rres1]
      | false =>
        rw [if_pos (show (!false) = true from rfl), if_neg (show ¬ (false = true) by simp)]
        by_cases h1 : cur.length < 1
        · rw [if_pos (by omega), if_pos (.inl h1)]; rfl
        · rw [if_neg (by omega)]
          simp only [List.length_nil] at hb hb2
          by_cases h2 : 63 < cur.length
          · rw [if_pos (by omega), if_pos (.inr h2)]; rfl
          · rw [if_neg (by omega), if_neg (show ¬ (cur.length < 1 ∨ 63 < cur.length) by omega), if_pos (by omega)]; rfl
    | cons c r =>
      obtain ⟨k, rfl⟩ : ∃ m, k = m + 1 := ⟨k - 1, by omega⟩
      have hs := size_L x
      rw [hx] at hs
      simp only [List.length_append, List.length_cons] at hs hn hb hb2
      have hc := byte_le c
      rw [spec_l01Read.l0, if_pos (by omega), if_pos (by omega), bt_mid hx rfl, w64 (x := (p.length : Int) + 1) (by omega) (by omega), rn]
      have e1' : (p.length : Int) + 1 = ((p ++ [c]).length : Int) := by simp
      by_cases h46 : c.toNat = 46
      · rw [if_pos (by omega), if_neg (show ¬ c.toNat = 92 by omega), if_pos h46]
        by_cases h1 : cur.length < 1
        · rw [if_pos (by omega), if_pos (.inl h1)]; rfl
        · rw [if_neg (by omega)]
          by_cases h2 : 63 < cur.length
          · rw [if_pos (by omega), if_pos (.inr h2)]; rfl
          · rw [if_neg (by omega), if_neg (show ¬ (cur.length < 1 ∨ 63 < cur.length) by omega), if_pos (by omega), e1']
            have := ih k (acc ++ [strOfNums cur]) [] true (p ++ [c]) r (by rw [hx]; simp) (by omega) (by omega) (by simp; omega) (by simp; omega)
            simp only [Bool.not_true] at this
            rw [this, rres1_cons]
      · rw [if_neg (by omega)]
        by_cases h92 : c.toNat = 92
        · rw [if_pos (by omega), if_pos h92, if_pos (by omega), if_pos (by omega)]
          have e0 : ((p.length : Int) + 1).toNat = p.length + 1 := by omega
          have e1 : L (x.extract (p.length + 1) x.size) = r := by
            rw [L_extract, hx, drop_len, hs]
            simp only [List.drop_succ_cons, List.drop_zero]
            exact List.take_of_length_le (by omega)
          rw [e0, spec_l01Escape_eq _ k (by omega), e1]
          cases hv : escV r with
          | none => simp [rres1]
          | some q =>
            obtain ⟨v, m⟩ := q
            have hp := escV_pos hv
            simp only [Option.bind_some]
            rw [if_neg (by omega), if_pos (by omega), w64 (x := (p.length : Int) + (m : Int)) (by omega) (by omega), w64 (by omega) (by omega)]
            have e2 : (p.length : Int) + (m : Int) + 1 = ((p ++ c :: r.take m).length : Int) := by
              simp [List.length_take]
              omega
            have := ih k acc (cur ++ [v]) false (p ++ c :: r.take m) (r.drop m) (by rw [hx]; simp) (by simp; omega) (by omega) (by simp; omega) (by simp; omega)
            simp only [Bool.not_false] at this
            rw [e2, this]
        · rw [if_neg (by omega), if_neg h92, if_neg h46, if_pos (by omega), e1']
          have := ih k acc (cur ++ [(c.toNat : Int)]) false (p ++ [c]) r (by rw [hx]; simp) (by omega) (by omega) (by omega) (by simp; omega)
          simp only [Bool.not_false] at this
          rw [this]
theorem spec_l01Read_eq (a : ByteArray) (ha : a.size ≤ 1048576) (k : Nat) (hk : a.size + 1 < k) : spec_l01Read.f k a = some (rres1 [] (rn [] false (L a))) := by
  have hs := size_L a
  unfold spec_l01Read.f
  exact spec_l01Read_l0 a ha (L a).length k [] [] false [] (L a) rfl (Nat.le_refl _) (by omega) (by simp; omega) (by simp; omega)

end Go.Proofs.Ytpbmnokmpihnjaa.Pure
