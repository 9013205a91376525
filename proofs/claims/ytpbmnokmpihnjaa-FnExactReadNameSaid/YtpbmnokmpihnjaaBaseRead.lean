/- A name read from its text; no program in sight. -/
import Derived.Test.YtpbmnokmpihnjaaBaseName
import Derived.Test.YtpbmnokmpihnjaaBaseText
namespace Go.Proofs.Ytpbmnokmpihnjaa.Base
open Go Go.RowKit Go.Proofs.YtpbmnokmpihnjaaW.PrintWords Go.Proofs.YtpbmnokmpihnjaaW.PrintMore

def rcons (s : ByteArray) : Except Int (List ByteArray × Bool) → Except Int (List ByteArray × Bool)
  | .error e => .error e
  | .ok (ls, d) => .ok (s :: ls, d)
/-- What is left of a name's text tells: its labels, and whether it ends with a dot; or a code. -/
def rn (cur : List Int) (dot : Bool) : List UInt8 → Except Int (List ByteArray × Bool)
  | [] => if dot = true then .ok ([], true) else if cur.length < 1 ∨ 63 < cur.length then .error 2 else .ok ([strOfNums cur], false)
  | c :: r => if c.toNat = 92 then (match escV r with
      | none => .error 4
      | some (v, n) => rn (cur ++ [v]) false (r.drop n))
    else if c.toNat = 46 then (if cur.length < 1 ∨ 63 < cur.length then .error 2 else rcons (strOfNums cur) (rn [] true r))
    else rn (cur ++ [(c.toNat : Int)]) false r
termination_by l => l.length
decreasing_by all_goals (simp <;> omega)
theorem strOfNums_size (l : List Int) : (strOfNums l).size = l.length := by rw [size_L, L_strOfNums, List.length_map]
theorem rn_good : ∀ (n : Nat) (cur : List Int) (dot : Bool) (l : List UInt8), l.length ≤ n → ∀ ls d, rn cur dot l = .ok (ls, d) → GoodL ls ∧ ls.length ≤ l.length + 1 := by
  intro n
  induction n with
  | zero =>
    intro cur dot l hl ls d h
    obtain rfl : l = [] := List.length_eq_zero_iff.1 (by omega)
    rw [rn] at h
    split at h
    · injection h with h; injection h with h1 h2; subst h1; exact ⟨(fun s hs => by cases hs), by simp⟩
    · split at h
      · cases h
      · rename_i hb
        injection h with h; injection h with h1 h2; subst h1
        refine ⟨fun s hs => ?_, by simp⟩
        obtain rfl := List.mem_singleton.1 hs
        rw [strOfNums_size]; omega
  | succ n ih =>
    intro cur dot l hl ls d h
    cases l with
    | nil =>
      rw [rn] at h
      split at h
      · injection h with h; injection h with h1 h2; subst h1; exact ⟨(fun s hs => by cases hs), by simp⟩
      · split at h
        · cases h
        · rename_i hb
          injection h with h; injection h with h1 h2; subst h1
          refine ⟨fun s hs => ?_, by simp⟩
          obtain rfl := List.mem_singleton.1 hs
          rw [strOfNums_size]; omega
    | cons c r =>
      simp only [List.length_cons] at hl ⊢
      rw [rn] at h
      by_cases h92 : c.toNat = 92
      · rw [if_pos h92] at h
        cases hv : escV r with
        | none => rw [hv] at h; cases h
        | some q =>
          obtain ⟨v, m⟩ := q
          rw [hv] at h
          have hp := escV_pos hv
          have := ih _ _ (r.drop m) (by simp; omega) ls d h
          refine ⟨this.1, ?_⟩
          have h2 := this.2
          simp only [List.length_drop] at h2
          omega
      · rw [if_neg h92] at h
        by_cases h46 : c.toNat = 46
        · rw [if_pos h46] at h
          by_cases hb : cur.length < 1 ∨ 63 < cur.length
          · rw [if_pos hb] at h; cases h
          · rw [if_neg hb] at h
            cases hr : rn [] true r with
            | error e => rw [hr] at h; cases h
            | ok p =>
              obtain ⟨t, d'⟩ := p
              rw [hr] at h
              injection h with h; injection h with h1 h2; subst h1
              obtain ⟨g1, g2⟩ := ih _ _ r (by omega) t d' hr
              refine ⟨fun s hs => ?_, by simp; omega⟩
              rcases List.mem_cons.1 hs with rfl | hs
              · rw [strOfNums_size]; omega
              · exact g1 s hs
        · rw [if_neg h46] at h
          have := ih _ _ r (by omega) ls d h
          exact ⟨this.1, by omega⟩
/-- How a reading of labels ends, relative to an origin. -/
def rend (o : ByteArray) : Except Int (List ByteArray × Bool) → ByteArray × Int
  | .error c => (⟨#[]⟩, c)
  | .ok (ls, true) => mkG ls
  | .ok (ls, false) => if L o = [] then (⟨#[]⟩, 5) else mkG (ls ++ (names (L o)).getD [])
def readB (t o : ByteArray) : ByteArray × Int :=
  if 1100 < t.size then (⟨#[]⟩, 3) else if L t = [] then (⟨#[]⟩, 1)
  else if L t = [64] then (if L o = [] then (⟨#[]⟩, 5) else (o, 0)) else if L t = [46] then (⟨#[0]⟩, 0)
  else rend o (rn [] false (L t))
/-- A name read from its text, relative to an origin. -/
def readN (t o : ByteArray) : ByteArray × Int := if ¬ L o = [] ∧ names (L o) = none then (⟨#[]⟩, 32) else readB t o
theorem rn_err : ∀ (n : Nat) (cur : List Int) (dot : Bool) (l : List UInt8), l.length ≤ n → ∀ c, rn cur dot l = .error c → c = 2 ∨ c = 4 := by
  intro n
  induction n with
  | zero =>
    intro cur dot l hl c h
    obtain rfl : l = [] := List.length_eq_zero_iff.1 (by omega)
    rw [rn] at h
    split at h
    · cases h
    · split at h
      · injection h with h; omega
      · cases h
  | succ n ih =>
    intro cur dot l hl c h
    cases l with
    | nil =>
      rw [rn] at h
      split at h
      · cases h
      · split at h
        · injection h with h; omega
        · cases h
    | cons b r =>
      simp only [List.length_cons] at hl
      rw [rn] at h
      by_cases h92 : b.toNat = 92
      · rw [if_pos h92] at h
        cases hv : escV r with
        | none => rw [hv] at h; injection h with h; omega
        | some q =>
          obtain ⟨v, m⟩ := q
          rw [hv] at h
          exact ih _ _ (r.drop m) (by simp; omega) c h
      · rw [if_neg h92] at h
        by_cases h46 : b.toNat = 46
        · rw [if_pos h46] at h
          by_cases hb : cur.length < 1 ∨ 63 < cur.length
          · rw [if_pos hb] at h; injection h with h; omega
          · rw [if_neg hb] at h
            cases hr : rn [] true r with
            | error e => rw [hr] at h; injection h with h; subst h; exact ih _ _ r (by omega) e hr
            | ok p => rw [hr] at h; cases h
        · rw [if_neg h46] at h
          exact ih _ _ r (by omega) c h
end Go.Proofs.Ytpbmnokmpihnjaa.Base
