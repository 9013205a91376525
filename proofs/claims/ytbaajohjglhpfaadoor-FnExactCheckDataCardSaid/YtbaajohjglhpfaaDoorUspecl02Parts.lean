/- What spec_l02Parts computes, in plain words, for enough rounds. Conditions: bounds on the sizes of its arguments, as each statement says. -/
import Derived.Test.YtbaajohjglhpfaaDoorFx1024
import Derived.Test.YtbaajohjglhpfaaDoorFx1036
import Derived.Test.YtbaajohjglhpfaaDoorFx1037
import Derived.Test.YtbaajohjglhpfaaDoorFx1038
import Derived.Test.YtbaajohjglhpfaaDoorFx1039
import Derived.Test.YtbaajohjglhpfaaDoorBase
import Derived.Test.YtbaajohjglhpfaaDoorBaseForm
import Derived.Test.YtbaajohjglhpfaaDoorUspecl02Map
import Derived.Test.YtbaajohjglhpfaaDoorUspecl02NameAt
import Derived.Test.YtbaajohjglhpfaaDoorUspecl02Text
namespace Go.Proofs.YtbaajohjglhpfaaDoor.Pure
open Go.RowKit Go.Proofs.YtbaajohjglhpfaaDoor.F Go.Proofs.YtbaajohjglhpfaaDoor.Base Go.Proofs.YtbaajohjglhpfaaDoorW.PrintWords Go.Proofs.YtbaajohjglhpfaaDoorW.PrintLast Go.Proofs.YtbaajohjglhpfaaDoorW.PrintMore
set_option linter.unusedVariables false
set_option linter.unusedSimpArgs false
-- base: BaseForm
theorem spec_l02Alnum_is (c : UInt8) : spec_l02Alnum.f (c.toNat : Int) = some (alnum c) := by
  have h : ∀ n : Fin 256, spec_l02Alnum.f (n.val : Int) = some ((decide (48 ≤ n.val) && decide (n.val ≤ 57)) || ((decide (97 ≤ n.val) && decide (n.val ≤ 122)) || (decide (65 ≤ n.val) && decide (n.val ≤ 90)))) := by decide +kernel
  exact h ⟨c.toNat, c.toNat_lt⟩
theorem spec_l02Parts_tag (K : Nat) : ∀ l : List UInt8, spec_l02Parts.tag K (l.map fun c => (c.toNat : Int)) = some (l.all alnum) := by
  intro l
  induction l with
  | nil => rfl
  | cons c r ih =>
    rw [List.map_cons, spec_l02Parts.tag, spec_l02Alnum_is, Option.bind_some, List.all_cons]
    cases alnum c
    · rfl
    · rw [if_pos rfl, ih]; rfl
/-- The texts that stand at the beginning, as many as there are: how many bytes. -/
def runs : Nat → List UInt8 → Nat
  | 0, _ => 0
  | d + 1, l => if tx l = 0 then 0 else tx l + runs d (l.drop (tx l))
theorem runs_le : ∀ (d : Nat) (l : List UInt8), runs d l ≤ l.length := by
  intro d
  induction d with
  | zero => intro l; exact Nat.zero_le _
  | succ d ih =>
    intro l
    rw [runs]
    split
    · exact Nat.zero_le _
    · have := ih (l.drop (tx l))
      have h := tx_le l
      rw [List.length_drop] at this
      omega
theorem spec_l02Parts_run (d : ByteArray) (hd : d.size ≤ 65535) : ∀ (n k : Nat) (p : ByteArray) (q : Nat), L p = (L d).take q → q ≤ d.size → d.size ≤ q + n → n + 1 ≤ k →
    spec_l02Parts.run k d p = some (B ((L d).take (q + runs n ((L d).drop q)))) := by
  have hs := size_L d
  intro n
  induction n with
  | zero =>
    intro k p q hp hq hn hk
    obtain ⟨k, rfl⟩ : ∃ m, k = m + 1 := ⟨k - 1, by omega⟩
    have hps : p.size = q := by rw [size_L, hp, List.length_take]; omega
    have hx : L (d.extract p.size d.size) = [] := by rw [L_extract, hps, List.drop_of_length_le (by omega)]; simp
    rw [spec_l02Parts.run, if_neg (by omega), spec_l02Text_eq _ (by rw [size_L, hx]; decide), Option.bind_some, hx, if_pos (by rw [size_L, L_B]; rfl)]
    congr 1
    apply L_inj
    rw [L_B, hp]
    rfl
  | succ n ih =>
    intro k p q hp hq hn hk
    obtain ⟨k, rfl⟩ : ∃ m, k = m + 1 := ⟨k - 1, by omega⟩
    have hps : p.size = q := by rw [size_L, hp, List.length_take]; omega
    have hx : L (d.extract p.size d.size) = (L d).drop q := by rw [L_extract, hps, List.take_of_length_le (by rw [List.length_drop]; omega)]
    have hxl : ((L d).drop q).length = d.size - q := by rw [List.length_drop]; omega
    have ht := tx_le ((L d).drop q)
    rw [spec_l02Parts.run, if_neg (by omega), spec_l02Text_eq _ (by rw [size_L, hx]; omega), Option.bind_some, hx, runs]
    have hsz : (B (((L d).drop q).take (tx ((L d).drop q)))).size = tx ((L d).drop q) := by rw [size_L, L_B, List.length_take]; omega
    rw [hsz]
    by_cases h0 : tx ((L d).drop q) = 0
    · rw [if_pos h0, if_pos h0]
      congr 1
      apply L_inj
      rw [L_B, hp]
      rfl
    · rw [if_neg h0, if_neg h0, if_pos (by omega), ih k _ (q + tx ((L d).drop q)) (by rw [L_append, L_B, hp, List.take_add]) (by omega) (by omega) (by omega), List.drop_drop]
      congr 3
      omega
/-- What a letter of the reference's forms takes. -/
def scon (c : Nat) (l : List UInt8) : Option Nat :=
  if c = 110 then (if nm l = 0 then none else some (nm l)) else if c = 98 then (if l = [] then none else some 1) else if c = 116 then (if tx l = 0 then none else some (tx l))
  else if c = 115 then (if runs l.length l = 0 then none else some (runs l.length l))
  else if c = 99 then (if tx l < 2 ∨ 16 < tx l then none else if ((l.take (tx l)).drop 1).all alnum then some l.length else none)
  else if c = 109 then (if (tmap (-1) l).isSome then some l.length else none) else if c = 42 then some l.length else none
def spg : List UInt8 → List UInt8 → Bool
  | [], l => l.isEmpty
  | c :: r, l => match scon c.toNat l with | none => false | some n => spg r (l.drop n)
def sletters (l : List UInt8) : Prop := ∀ c ∈ l, c.toNat ∈ [110, 98, 116, 115, 99, 109, 42]
theorem spec_l02Parts_pre (K : Nat) (hK : 450000000 ≤ K) (c : UInt8) (hc : c.toNat ∈ [110, 98, 116, 115, 99, 109, 42]) (d : ByteArray) (hd : d.size ≤ 65535) :
    ∃ o, spec_l02Parts.pre K (c.toNat : Int) d = some o ∧ (match o with
      | none => scon c.toNat (L d) = none
      | some p => p.size ≤ d.size ∧ scon c.toNat (L d) = if p.size = 0 ∧ (c.toNat : Int) ≠ 109 ∧ (c.toNat : Int) ≠ 42 then none else some p.size) := by
  have hs := size_L d
  generalize hl : L d = l at *
  have h1 := nm_le l
  have h2 := tx_le l
  have hts : ∀ n, n ≤ l.length → (B (l.take n)).size = n := fun n hn => by rw [size_L, L_B, List.length_take]; omega
  simp only [List.mem_cons, List.not_mem_nil, or_false] at hc
  rcases hc with h | h | h | h | h | h | h <;> rw [h]
  · have e1 : spec_l02Parts.pre K ((110 : Nat) : Int) d = (spec_l02NameAt.f K d).bind fun p => some (some p) := by unfold spec_l02Parts.pre; simp
    have e2 : scon 110 l = if nm l = 0 then none else some (nm l) := by unfold scon; simp
    rw [e1, e2, spec_l02NameAt_eq d (by omega) K (by omega), Option.bind_some, hl]
    refine ⟨_, rfl, by rw [hts _ h1]; omega, ?_⟩
    rw [hts _ h1]
    by_cases h0 : nm l = 0
    · rw [if_pos h0, if_pos ⟨h0, by decide, by decide⟩]
    · rw [if_neg h0, if_neg (fun e => h0 e.1)]
  · have e1 : spec_l02Parts.pre K ((98 : Nat) : Int) d = some (some (if d.size = 0 then ⟨#[]⟩ else d.extract 0 1)) := by unfold spec_l02Parts.pre; simp
    have e2 : scon 98 l = if l = [] then none else some 1 := by unfold scon; simp
    rw [e1, e2]
    by_cases h0 : d.size = 0
    · have h3 : l = [] := List.eq_nil_of_length_eq_zero (by omega)
      rw [if_pos h0, if_pos h3]
      exact ⟨_, rfl, by show (0 : Nat) ≤ _; omega, by rw [if_pos ⟨rfl, by decide, by decide⟩]⟩
    · have h3 : ¬ l = [] := fun e => h0 (by rw [e] at hs; exact hs)
      have h4 : (d.extract 0 1).size = 1 := by rw [ByteArray.size_extract]; omega
      rw [if_neg h0, if_neg h3]
      exact ⟨_, rfl, by rw [h4]; omega, by rw [h4, if_neg (fun e => absurd e.1 (by decide))]⟩
  · have e1 : spec_l02Parts.pre K ((116 : Nat) : Int) d = (spec_l02Text.f d).bind fun p => some (some p) := by unfold spec_l02Parts.pre; simp
    have e2 : scon 116 l = if tx l = 0 then none else some (tx l) := by unfold scon; simp
    rw [e1, e2, spec_l02Text_eq d (by omega), Option.bind_some, hl]
    refine ⟨_, rfl, by rw [hts _ h2]; omega, ?_⟩
    rw [hts _ h2]
    by_cases h0 : tx l = 0
    · rw [if_pos h0, if_pos ⟨h0, by decide, by decide⟩]
    · rw [if_neg h0, if_neg (fun e => h0 e.1)]
  · have e1 : spec_l02Parts.pre K ((115 : Nat) : Int) d = (spec_l02Parts.run K d ⟨#[]⟩).bind fun p => some (some p) := by unfold spec_l02Parts.pre; simp
    have e2 : scon 115 l = if runs l.length l = 0 then none else some (runs l.length l) := by unfold scon; simp
    have h3 := runs_le l.length l
    rw [e1, e2, spec_l02Parts_run d hd l.length K ⟨#[]⟩ 0 rfl (Nat.zero_le _) (by omega) (by omega), Option.bind_some, hl, List.drop_zero, Nat.zero_add]
    refine ⟨_, rfl, by rw [hts _ h3]; omega, ?_⟩
    rw [hts _ h3]
    by_cases h0 : runs l.length l = 0
    · rw [if_pos h0, if_pos ⟨h0, by decide, by decide⟩]
    · rw [if_neg h0, if_neg (fun e => h0 e.1)]
  · have e1 : spec_l02Parts.pre K ((99 : Nat) : Int) d = (spec_l02Text.f d).bind fun p => if p.size < 2 then some none else if 16 < p.size then some none else (spec_l02Parts.tag K ((bytesOf p).drop 1)).bind fun b => some (if b = true then some d else none) := by unfold spec_l02Parts.pre; simp
    have e2 : scon 99 l = if tx l < 2 ∨ 16 < tx l then none else if ((l.take (tx l)).drop 1).all alnum then some l.length else none := by unfold scon; simp
    rw [e1, e2, spec_l02Text_eq d (by omega), Option.bind_some, hl, hts _ h2]
    by_cases g1 : tx l < 2
    · exact ⟨none, by rw [if_pos g1], by rw [if_pos (.inl g1)]⟩
    · by_cases g2 : 16 < tx l
      · exact ⟨none, by rw [if_neg g1, if_pos g2], by rw [if_pos (.inr g2)]⟩
      · have h4 : (bytesOf (B (l.take (tx l)))).drop 1 = ((l.take (tx l)).drop 1).map fun c => (c.toNat : Int) := by
          have h5 : bytesOf (B (l.take (tx l))) = (L (B (l.take (tx l)))).map fun c => (c.toNat : Int) := rfl
          rw [h5, L_B, List.map_drop]
        rw [if_neg g1, if_neg g2, if_neg (show ¬ (tx l < 2 ∨ 16 < tx l) by omega), h4, spec_l02Parts_tag, Option.bind_some]
        by_cases g3 : ((l.take (tx l)).drop 1).all alnum = true
        · rw [if_pos g3, if_pos g3]
          exact ⟨_, rfl, Nat.le_refl _, by rw [if_neg (fun e => by have := e.1; omega), hs]⟩
        · rw [if_neg g3, if_neg g3]
          exact ⟨none, rfl, rfl⟩
  · have e1 : spec_l02Parts.pre K ((109 : Nat) : Int) d = (spec_l02Map.f K d).bind fun b => some (if b = true then some d else none) := by unfold spec_l02Parts.pre; simp
    have e2 : scon 109 l = if (tmap (-1) l).isSome then some l.length else none := by unfold scon; simp
    rw [e1, e2, spec_l02Map_eq d K (by omega), Option.bind_some, hl]
    cases tmap (-1) l with
    | none => exact ⟨none, rfl, rfl⟩
    | some ts => exact ⟨some d, rfl, Nat.le_refl _, by rw [if_pos (show (some ts).isSome = true from rfl), hs, if_neg (fun e => e.2.1 rfl)]⟩
  · have e1 : spec_l02Parts.pre K ((42 : Nat) : Int) d = some (some d) := by unfold spec_l02Parts.pre; simp
    have e2 : scon 42 l = some l.length := by unfold scon; simp
    rw [e1, e2]
    exact ⟨_, rfl, Nat.le_refl _, by rw [if_neg (fun e => e.2.2 rfl), hs]⟩
theorem spec_l02Parts_go (K : Nat) (hK : 450000000 ≤ K) : ∀ (r : List UInt8) (d : ByteArray) (out : List ByteArray), sletters r → d.size ≤ 65535 → out.length + r.length ≤ 1000 → ∃ out', spec_l02Parts.go K r d out = some (out', spg r (L d)) := by
  intro r
  induction r with
  | nil =>
    intro d out _ _ _
    exact ⟨out, by rw [spec_l02Parts.go, spg, toL]⟩
  | cons c r ih =>
    intro d out hr hd ho
    obtain ⟨o, h1, h2⟩ := spec_l02Parts_pre K hK c (hr c (by simp)) d hd
    simp only [List.length_cons] at ho
    rw [spec_l02Parts.go, h1, Option.bind_some, spg]
    cases o with
    | none =>
      simp only at h2
      rw [h2]
      exact ⟨[], rfl⟩
    | some p =>
      simp only at h2
      obtain ⟨h3, h4⟩ := h2
      rw [h4]
      simp only
      by_cases h5 : p.size = 0 ∧ (c.toNat : Int) ≠ 109 ∧ (c.toNat : Int) ≠ 42
      · rw [if_pos h5, if_pos h5]
        exact ⟨[], rfl⟩
      · rw [if_neg h5, if_neg h5, if_neg (by omega), if_neg (by omega)]
        have hx : L (d.extract p.size d.size) = (L d).drop p.size := by rw [L_extract, List.take_of_length_le (by rw [List.length_drop, ← size_L]; exact Nat.le_refl _)]
        obtain ⟨out', h6⟩ := ih (d.extract p.size d.size) (out ++ [p]) (fun x hx => hr x (by simp [hx])) (by rw [size_L, hx, List.length_drop, ← size_L]; omega) (by simp; omega)
        exact ⟨out', by rw [h6, hx]⟩
theorem exact_runs : ∀ (d : Nat) (l : List UInt8), l.length ≤ d → (exact d l = true ↔ runs d l = l.length) := by
  intro d
  induction d with
  | zero =>
    intro l h
    obtain rfl : l = [] := List.eq_nil_of_length_eq_zero (by omega)
    exact ⟨fun _ => rfl, fun _ => rfl⟩
  | succ d ih =>
    intro l h
    cases l with
    | nil => exact ⟨fun _ => by rw [runs, if_pos (by rfl)]; rfl, fun _ => rfl⟩
    | cons c r =>
      simp only [List.length_cons] at h
      rw [exact, runs, tx]
      by_cases h1 : r.length < c.toNat
      · rw [if_pos h1, if_pos h1, if_pos rfl]
        simp
      · rw [if_neg h1, if_neg h1, if_neg (by omega), List.drop_succ_cons, ih (r.drop c.toNat) (by rw [List.length_drop]; omega), List.length_drop, List.length_cons]
        omega
theorem pg_nil (l : List UInt8) : pg [] l = l.isEmpty := rfl
theorem spg_nil (l : List UInt8) : spg [] l = l.isEmpty := rfl
theorem pg_1 (r l : List UInt8) : pg (49 :: r) l = if l.length < 1 then false else pg r (l.drop 1) := by
  rw [pg]; show (match (if l.length < 1 then none else some 1) with | none => false | some n => pg r (l.drop n)) = _
  cases l <;> simp
theorem pg_2 (r l : List UInt8) : pg (50 :: r) l = if l.length < 2 then false else pg r (l.drop 2) := by
  rw [pg]; show (match (if l.length < 2 then none else some 2) with | none => false | some n => pg r (l.drop n)) = _; split <;> rename_i h <;> split at h <;> simp_all
theorem pg_4 (r l : List UInt8) : pg (52 :: r) l = if l.length < 4 then false else pg r (l.drop 4) := by
  rw [pg]; show (match (if l.length < 4 then none else some 4) with | none => false | some n => pg r (l.drop n)) = _; split <;> rename_i h <;> split at h <;> simp_all
theorem pg_g (r l : List UInt8) : pg (103 :: r) l = if l.length < 4 then false else pg r (l.drop 4) := by
  rw [pg]; show (match (if l.length < 4 then none else some 4) with | none => false | some n => pg r (l.drop n)) = _; split <;> rename_i h <;> split at h <;> simp_all
theorem pg_q (r l : List UInt8) : pg (113 :: r) l = if l.length < 4 then false else pg r (l.drop 4) := by
  rw [pg]; show (match (if l.length < 4 then none else some 4) with | none => false | some n => pg r (l.drop n)) = _; split <;> rename_i h <;> split at h <;> simp_all
theorem pg_n (r l : List UInt8) : pg (110 :: r) l = if nm l = 0 then false else pg r (l.drop (nm l)) := by
  rw [pg]; show (match (if nm l = 0 then none else some (nm l)) with | none => false | some n => pg r (l.drop n)) = _; split <;> rename_i h <;> split at h <;> simp_all
theorem pg_t (r l : List UInt8) : pg (116 :: r) l = if tx l = 0 then false else pg r (l.drop (tx l)) := by
  rw [pg]; show (match (if tx l = 0 then none else some (tx l)) with | none => false | some n => pg r (l.drop n)) = _; split <;> rename_i h <;> split at h <;> simp_all
theorem spg_n (r l : List UInt8) : spg (110 :: r) l = if nm l = 0 then false else spg r (l.drop (nm l)) := by
  rw [spg]; show (match (if nm l = 0 then none else some (nm l)) with | none => false | some n => spg r (l.drop n)) = _; split <;> rename_i h <;> split at h <;> simp_all
theorem spg_t (r l : List UInt8) : spg (116 :: r) l = if tx l = 0 then false else spg r (l.drop (tx l)) := by
  rw [spg]; show (match (if tx l = 0 then none else some (tx l)) with | none => false | some n => spg r (l.drop n)) = _; split <;> rename_i h <;> split at h <;> simp_all
theorem spg_b (r l : List UInt8) : spg (98 :: r) l = if l.length < 1 then false else spg r (l.drop 1) := by
  rw [spg]; show (match (if l = [] then none else some 1) with | none => false | some n => spg r (l.drop n)) = _
  cases l <;> simp
theorem spg_bb (r l : List UInt8) : spg (98 :: 98 :: r) l = if l.length < 2 then false else spg r (l.drop 2) := by
  rw [spg_b, spg_b, List.length_drop, List.drop_drop]
  by_cases h : l.length < 2
  · rw [if_pos h]
    split
    · rfl
    · rw [if_pos (by omega)]
  · rw [if_neg h, if_neg (by omega), if_neg (by omega)]
theorem spg_b4 (r l : List UInt8) : spg (98 :: 98 :: 98 :: 98 :: r) l = if l.length < 4 then false else spg r (l.drop 4) := by
  rw [spg_bb, spg_bb, List.length_drop, List.drop_drop]
  by_cases h : l.length < 4
  · rw [if_pos h]
    split
    · rfl
    · rw [if_pos (by omega)]
  · rw [if_neg h, if_neg (by omega), if_neg (by omega)]

end Go.Proofs.YtbaajohjglhpfaaDoor.Pure
