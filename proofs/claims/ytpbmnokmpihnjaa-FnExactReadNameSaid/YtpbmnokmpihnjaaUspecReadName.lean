/- What spec_ReadName computes, in plain words, for enough rounds. Conditions: bounds on the sizes of its arguments, as each statement says. -/
import Derived.Test.YtpbmnokmpihnjaaFx1016
import Derived.Test.YtpbmnokmpihnjaaBase
import Derived.Test.YtpbmnokmpihnjaaBaseRead
import Derived.Test.YtpbmnokmpihnjaaUspecMakeName
import Derived.Test.YtpbmnokmpihnjaaUspecl01Read
import Derived.Test.YtpbmnokmpihnjaaUspecl01Split
namespace Go.Proofs.Ytpbmnokmpihnjaa.Pure
open Go.RowKit Go.Proofs.Ytpbmnokmpihnjaa.F Go.Proofs.Ytpbmnokmpihnjaa.Base Go.Proofs.YtpbmnokmpihnjaaW.PrintWords Go.Proofs.YtpbmnokmpihnjaaW.PrintLast Go.Proofs.YtpbmnokmpihnjaaW.PrintMore
set_option linter.unusedVariables false
set_option linter.unusedSimpArgs false
-- base: BaseRead
theorem spec_ReadName_l0 (z : List ByteArray) (hz : z.length ≤ 300) : ∀ (d k i : Nat) (acc : List ByteArray), i + d = z.length → d + 300 < k → acc.length + d ≤ 10000 → GoodL (acc ++ z.drop i) → spec_ReadName.l0 k z acc (i : Int) = some (mkG (acc ++ z.drop i)) := by
  intro d
  induction d with
  | zero =>
    intro k i acc hi hk ha hs
    obtain ⟨k, rfl⟩ : ∃ m, k = m + 1 := ⟨k - 1, by omega⟩
    rw [List.drop_of_length_le (by omega), List.append_nil] at hs ⊢
    rw [spec_ReadName.l0, if_neg (by omega), spec_MakeName_eq acc (fun s h => by have := hs s h; omega) k (by omega), mkN_good hs]
    rfl
  | succ d ih =>
    intro k i acc hi hk ha hs
    obtain ⟨k, rfl⟩ : ∃ m, k = m + 1 := ⟨k - 1, by omega⟩
    have hi' : i < z.length := by omega
    have hel : rdOf ByteArray.empty z (i : Int) = z[i] := by simp [rdOf, List.getD_eq_getElem?_getD, hi']
    have e : acc ++ z.drop i = (acc ++ [z[i]]) ++ z.drop (i + 1) := by rw [List.drop_eq_getElem_cons hi']; simp
    rw [e] at hs ⊢
    rw [spec_ReadName.l0, if_pos (by omega), if_pos (by omega), if_pos (by omega), hel, w64 (by omega) (by omega)]
    exact ih k (i + 1) (acc ++ [z[i]]) (by omega) (by omega) (by simp; omega) hs
theorem spec_ReadName_eq (t o : ByteArray) (k : Nat) (hk : 10000 ≤ k) : spec_ReadName.f k t o = some (readN t o) := by
  obtain ⟨k, rfl⟩ : ∃ m, k = m + 2 := ⟨k - 2, by omega⟩
  have hst := size_L t
  unfold spec_ReadName.f readN
  rw [spec_l01Split_eq o _ (by omega)]
  simp only [Option.bind_some, toL]
  have body : ∀ tail : List ByteArray, (L o = [] ∨ names (L o) = some tail) → spec_ReadName.j0 (k + 1 + 1) t o tail false = some (readB t o) := by
    intro tail ht
    unfold readB
    rw [spec_ReadName.j0, if_neg (by simp)]
    simp only [toL]
    by_cases h1 : 1100 < t.size
    · rw [if_pos (by omega), if_pos h1]
    · rw [if_neg (by omega), if_neg h1]
      by_cases h2 : L t = []
      · rw [if_pos h2, if_pos h2]
      · rw [if_neg h2, if_neg h2]
        have j1 : ∀ ls : List ByteArray, GoodL ls → ls.length ≤ 2000 → spec_ReadName.j1 (k + 1) o tail ls false = some (if L o = [] then (⟨#[]⟩, 5) else mkG (ls ++ (names (L o)).getD [])) := by
          intro ls hg hl
          rw [spec_ReadName.j1, if_neg (by simp)]
          simp only [toL]
          by_cases ho : L o = []
          · rw [if_pos ho, if_pos ho]
          · rw [if_neg ho, if_neg ho]
            have hn := ht.resolve_left ho
            obtain ⟨gt, jt, lt⟩ := names_good hn
            have hlt := joinL_len_ge tail
            have := spec_ReadName_l0 tail (by omega) tail.length k 0 ls (by omega) (by omega) (by omega) (by simpa using hg.append gt)
            rw [hn]
            simpa using this
        by_cases h46 : L t = [46]
        · rw [if_pos h46, if_neg (by rw [h46]; decide), if_pos h46]
        · rw [if_neg h46]
          by_cases h64 : L t = [64]
          · rw [if_pos h64, if_pos h64, j1 [] (fun s hs => by cases hs) (by simp)]
            by_cases ho : L o = []
            · rw [if_pos ho, if_pos ho]
            · rw [if_neg ho, if_neg ho]
              have hn := ht.resolve_left ho
              obtain ⟨gt, jt, lt⟩ := names_good hn
              rw [hn]
              simp only [Option.getD_some, List.nil_append]
              unfold mkG
              rw [if_neg (by omega), jt]
          · rw [if_neg h64, if_neg h64, if_neg h46, spec_l01Read_eq t (by omega) _ (by omega)]
            cases hr : rn [] false (L t) with
            | error c =>
              have hc := rn_err _ [] false (L t) (Nat.le_refl _) c hr
              simp only [rres1, Option.bind_some]
              rw [if_neg (by omega)]
              rfl
            | ok q =>
              obtain ⟨ls, d⟩ := q
              obtain ⟨hg, hlen⟩ := rn_good _ [] false (L t) (Nat.le_refl _) ls d hr
              simp only [rres1, Option.bind_some, List.nil_append, if_true]
              cases d with
              | true =>
                rw [spec_ReadName.j1, if_pos rfl, spec_MakeName_eq ls (fun s h => by have := hg s h; omega) k (by omega), mkN_good hg]
                rfl
              | false => exact j1 ls hg (by omega)
  by_cases ho : L o = []
  · rw [if_pos ho, if_neg (fun h => h.1 ho)]
    exact body _ (.inl ho)
  · rw [if_neg ho]
    cases hn : names (L o) with
    | none =>
      rw [if_pos ⟨ho, rfl⟩]
      simp [res, spec_ReadName.j0]
    | some z =>
      rw [if_neg (fun h => by cases h.2)]
      simp only [res, List.nil_append, Bool.not_true]
      exact body z (.inr hn)

end Go.Proofs.Ytpbmnokmpihnjaa.Pure
