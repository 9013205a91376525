/- What impl_ReadName computes, in plain words, for enough rounds. Conditions: bounds on the sizes of its arguments, as each statement says. -/
import Derived.Test.YtpbmnokmpihnjaaFx1017
import Derived.Test.YtpbmnokmpihnjaaFx1039
import Derived.Test.YtpbmnokmpihnjaaBase
import Derived.Test.YtpbmnokmpihnjaaBaseRead
import Derived.Test.YtpbmnokmpihnjaaUimplescaped
import Derived.Test.YtpbmnokmpihnjaaUimpljoined
import Derived.Test.YtpbmnokmpihnjaaUimpllabelsOf
namespace Go.Proofs.Ytpbmnokmpihnjaa.Pure
open Go.RowKit Go.Proofs.Ytpbmnokmpihnjaa.F Go.Proofs.Ytpbmnokmpihnjaa.Base Go.Proofs.YtpbmnokmpihnjaaW.PrintWords Go.Proofs.YtpbmnokmpihnjaaW.PrintLast Go.Proofs.YtpbmnokmpihnjaaW.PrintMore
set_option linter.unusedVariables false
set_option linter.unusedSimpArgs false
-- base: BaseRead
/-- What the program's walk over a name's text ends in. -/
def rres2 (o : ByteArray) (tail acc : List ByteArray) : Except Int (List ByteArray × Bool) → ByteArray × Int
  | .error c => (⟨#[]⟩, c)
  | .ok (ls, true) => mkG (acc ++ ls)
  | .ok (ls, false) => if L o = [] then (⟨#[]⟩, 5) else mkG (acc ++ ls ++ tail)
theorem rres2_cons (o : ByteArray) (tail acc : List ByteArray) (s : ByteArray) (q : Except Int (List ByteArray × Bool)) : rres2 o tail acc (rcons s q) = rres2 o tail (acc ++ [s]) q := by
  rcases q with e | ⟨ls, d⟩
  · rfl
  · cases d <;> simp [rres2, rcons]
theorem impl_ReadName_mk (ls : List ByteArray) (hg : GoodL ls) (hl : ls.length ≤ 100000) : ((impl_joined.f ls).bind fun t => if (t.size : Int) > 255 then some ((⟨#[]⟩ : ByteArray), (3 : Int)) else some (t, 0)) = some (mkG ls) := by
  have hb : (joinL ls).length ≤ 64 * ls.length := by
    clear hl
    induction ls with
    | nil => simp [joinL]
    | cons s t ih =>
      have h1 := hg s (by simp)
      have h2 := ih fun x hx => hg x (by simp [hx])
      rw [joinL_cons]
      have := size_L s
      simp only [List.length_cons, List.length_append]
      omega
  rw [impl_joined_eq ls (by omega)]
  simp only [Option.bind_some, size_join]
  unfold mkG
  by_cases h : 255 < (joinL ls).length + 1
  · rw [if_pos (by omega), if_pos h]
  · rw [if_neg (by omega), if_neg h]
theorem impl_ReadName_end (x o : ByteArray) (tail : List ByteArray) (ht : L o = [] ∨ (GoodL tail ∧ tail.length ≤ 300)) (k : Nat) (acc : List ByteArray) (hg : GoodL acc) (ha : acc.length ≤ 2000) (cur : List Int) (dot : Bool) (hc : cur.length ≤ 2000) (i : Int) (hi : ¬ i < (x.size : Int)) : impl_ReadName.l0 (k + 2) x o tail acc cur dot i = some (rres2 o tail acc (rn cur dot [])) := by
  rw [impl_ReadName.l0, if_neg hi, rn]
  cases dot with
  | true =>
    rw [if_pos rfl, if_pos rfl, impl_ReadName_mk acc hg (by omega)]
    simp [rres2]
  | false =>
    rw [if_neg (show ¬ (false = true) by simp), if_neg (show ¬ (false = true) by simp)]
    by_cases h1 : cur.length < 1
    · rw [if_pos (by omega), if_pos (.inl h1), impl_ReadName.j2, if_pos rfl]; rfl
    · rw [if_neg (by omega)]
      by_cases h2 : 63 < cur.length
      · rw [decide_eq_true (by omega), if_pos (.inr h2), impl_ReadName.j2, if_pos rfl]; rfl
      · rw [decide_eq_false (by omega), if_neg (show ¬ (cur.length < 1 ∨ 63 < cur.length) by omega), impl_ReadName.j2, if_neg (by simp), if_pos (by omega)]
        simp only [Option.bind_some, toL, rres2]
        by_cases ho : L o = []
        · rw [if_pos ho, if_pos ho]
        · rw [if_neg ho, if_neg ho]
          obtain ⟨gt, lt⟩ := ht.resolve_left ho
          have hgs : GoodL [strOfNums cur] := by
            intro s hs
            obtain rfl := List.mem_singleton.1 hs
            rw [strOfNums_size]; omega
          rw [if_pos (by simp; omega), impl_ReadName_mk _ ((hg.append hgs).append gt) (by simp; omega)]
theorem impl_ReadName_l0 (x o : ByteArray) (hx0 : x.size ≤ 1100) (tail : List ByteArray) (ht : L o = [] ∨ (GoodL tail ∧ tail.length ≤ 300)) : ∀ (n k : Nat) (acc : List ByteArray) (cur : List Int) (dot : Bool) (p r : List UInt8), L x = p ++ r → r.length ≤ n → n + 10 < k → GoodL acc → acc.length + r.length ≤ 2000 → cur.length + r.length ≤ 2000 → impl_ReadName.l0 k x o tail acc cur dot (p.length : Int) = some (rres2 o tail acc (rn cur dot r)) := by
  intro n
  induction n with
  | zero =>
    intro k acc cur dot p r hx hn hk hg hb hb2
    obtain ⟨k, rfl⟩ : ∃ m, k = m + 2 := ⟨k - 2, by omega⟩
    obtain rfl : r = [] := List.length_eq_zero_iff.1 (by omega)
    have hs := size_L x
    rw [hx] at hs
    simp only [List.append_nil, List.length_nil] at hs hb hb2
    exact impl_ReadName_end x o tail ht k acc hg (by omega) cur dot (by omega) _ (by omega)
  | succ n ih =>
    intro k acc cur dot p r hx hn hk hg hb hb2
    cases r with
    | nil =>
      obtain ⟨k, rfl⟩ : ∃ m, k = m + 2 := ⟨k - 2, by omega⟩
      have hs := size_L x
      rw [hx] at hs
      simp only [List.append_nil, List.length_nil] at hs hb hb2
      exact impl_ReadName_end x o tail ht k acc hg (by omega) cur dot (by omega) _ (by omega)
    | cons c r =>
      obtain ⟨k, rfl⟩ : ∃ m, k = m + 1 := ⟨k - 1, by omega⟩
      have hs := size_L x
      rw [hx] at hs
      simp only [List.length_append, List.length_cons] at hs hn hb hb2
      have hc := byte_le c
      rw [impl_ReadName.l0, if_pos (by omega), if_pos (by omega), bt_mid hx rfl, w64 (x := (p.length : Int) + 1) (by omega) (by omega), rn]
      have e1' : (p.length : Int) + 1 = ((p ++ [c]).length : Int) := by simp
      by_cases h92 : c.toNat = 92
      · rw [if_pos (by omega), if_pos h92]
        obtain ⟨j1, j2, hj⟩ := impl_escaped_eq x (by omega) p r c hx k (by omega)
        rw [hj]
        cases hv : escV r with
        | none => simp [rres2]
        | some q =>
          obtain ⟨v, m⟩ := q
          have hp := escV_pos hv
          simp only [Option.bind_some, if_true]
          rw [if_pos (by omega)]
          have e2 : ((p.length + 1 + m : Nat) : Int) = ((p ++ c :: r.take m).length : Int) := by
            simp [List.length_take]
            omega
          rw [e2, ih k acc (cur ++ [v]) false (p ++ c :: r.take m) (r.drop m) (by rw [hx]; simp) (by simp; omega) (by omega) hg (by simp; omega) (by simp; omega)]
      · rw [if_neg (by omega), if_neg h92]
        by_cases h46 : c.toNat = 46
        · rw [if_pos (by omega), if_pos h46]
          by_cases h1 : cur.length < 1
          · rw [if_pos (by omega), if_pos (.inl h1)]; rfl
          · rw [if_neg (by omega)]
            by_cases h2 : 63 < cur.length
            · rw [if_pos (by omega), if_pos (.inr h2)]; rfl
            · rw [if_neg (by omega), if_neg (show ¬ (cur.length < 1 ∨ 63 < cur.length) by omega), if_pos (by omega), e1']
              have hgs : GoodL [strOfNums cur] := by
                intro s hs
                obtain rfl := List.mem_singleton.1 hs
                rw [strOfNums_size]; omega
              rw [ih k (acc ++ [strOfNums cur]) [] true (p ++ [c]) r (by rw [hx]; simp) (by omega) (by omega) (hg.append hgs) (by simp; omega) (by simp; omega), rres2_cons]
        · rw [if_neg (by omega), if_neg h46, if_pos (by omega), e1', ih k acc (cur ++ [(c.toNat : Int)]) false (p ++ [c]) r (by rw [hx]; simp) (by omega) (by omega) hg (by omega) (by simp; omega)]
theorem impl_ReadName_eq (t o : ByteArray) (k : Nat) (hk : 10000 ≤ k) : impl_ReadName.f k t o = some (readN t o) := by
  obtain ⟨k, rfl⟩ : ∃ m, k = m + 1 := ⟨k - 1, by omega⟩
  have hst := size_L t
  unfold impl_ReadName.f readN
  have body : ∀ tail : List ByteArray, (L o = [] ∨ names (L o) = some tail) → impl_ReadName.j0 (k + 1) t o tail false = some (readB t o) := by
    intro tail ht
    unfold readB
    rw [impl_ReadName.j0, if_neg (by simp)]
    simp only [toL]
    by_cases h1 : 1100 < t.size
    · rw [if_pos (by omega), if_pos h1]
    · rw [if_neg (by omega), if_neg h1]
      by_cases h2 : L t = []
      · rw [if_pos h2, if_pos h2]
      · rw [if_neg h2, if_neg h2]
        by_cases h64 : L t = [64]
        · rw [if_pos h64, if_pos h64]
          by_cases ho : L o = []
          · rw [if_pos ho, if_pos ho]
          · rw [if_neg ho, if_neg ho]
        · rw [if_neg h64, if_neg h64]
          by_cases h46 : L t = [46]
          · rw [if_pos h46, if_pos h46]
          · rw [if_neg h46, if_neg h46]
            have ht2 : L o = [] ∨ (GoodL tail ∧ tail.length ≤ 300) := by
              rcases ht with h | h
              · exact .inl h
              · obtain ⟨gt, jt, lt⟩ := names_good h
                have := joinL_len_ge tail
                exact .inr ⟨gt, by omega⟩
            have := impl_ReadName_l0 t o (by omega) tail ht2 (L t).length k [] [] false [] (L t) rfl (Nat.le_refl _) (by omega) (fun s hs => by cases hs) (by simp; omega) (by simp; omega)
            rw [show (([] : List UInt8).length : Int) = 0 from rfl] at this
            rw [this]
            rcases rn [] false (L t) with c | ⟨ls, d⟩
            · rfl
            · cases d with
              | true => simp [rres2, rend]
              | false =>
                simp only [rres2, rend, List.nil_append]
                by_cases ho : L o = []
                · rw [if_pos ho, if_pos ho]
                · rw [if_neg ho, if_neg ho, ht.resolve_left ho]
                  rfl
  by_cases ho : L o = []
  · rw [if_neg (fun h => h.1 ho)]
    cases hn : names (L o) with
    | none =>
      rw [impl_labelsOf_none hn _ (by omega)]
      simp only [Option.bind_some, toL]
      rw [if_pos ho]
      exact body _ (.inl ho)
    | some z =>
      rw [impl_labelsOf_some hn _ (by omega)]
      simp only [Option.bind_some, toL]
      rw [if_pos ho]
      exact body _ (.inl ho)
  · cases hn : names (L o) with
    | none =>
      rw [impl_labelsOf_none hn _ (by omega), if_pos ⟨ho, rfl⟩]
      simp only [Option.bind_some, toL]
      rw [if_neg ho]
      simp [impl_ReadName.j0]
    | some z =>
      rw [impl_labelsOf_some hn _ (by omega), if_neg (fun h => by cases h.2)]
      simp only [Option.bind_some, toL, Bool.not_true]
      rw [if_neg ho]
      exact body z (.inr hn)

end Go.Proofs.Ytpbmnokmpihnjaa.Pure
