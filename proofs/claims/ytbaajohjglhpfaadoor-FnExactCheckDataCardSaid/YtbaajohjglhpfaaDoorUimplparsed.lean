/- What impl_parsed computes, in plain words, for enough rounds. Conditions: bounds on the sizes of its arguments, as each statement says. -/
import Derived.Test.YtbaajohjglhpfaaDoorFx1026
import Derived.Test.YtbaajohjglhpfaaDoorFx1041
import Derived.Test.YtbaajohjglhpfaaDoorFx1042
import Derived.Test.YtbaajohjglhpfaaDoorBase
import Derived.Test.YtbaajohjglhpfaaDoorBaseForm
import Derived.Test.YtbaajohjglhpfaaDoorUimplMapTypes
import Derived.Test.YtbaajohjglhpfaaDoorUimplnameAt
namespace Go.Proofs.YtbaajohjglhpfaaDoor.Pure
open Go.RowKit Go.Proofs.YtbaajohjglhpfaaDoor.F Go.Proofs.YtbaajohjglhpfaaDoor.Base Go.Proofs.YtbaajohjglhpfaaDoorW.PrintWords Go.Proofs.YtbaajohjglhpfaaDoorW.PrintLast Go.Proofs.YtbaajohjglhpfaaDoorW.PrintMore
set_option linter.unusedVariables false
set_option linter.unusedSimpArgs false
-- base: BaseForm
theorem impl_parsed_alnum (c : UInt8) : impl_parsed.alnum (c.toNat : Int) = alnum c := by
  unfold impl_parsed.alnum alnum
  congr 1 <;> (try congr 1) <;> (try congr 1) <;> simp <;> omega
theorem impl_parsed_tMost (s : ByteArray) : ∀ (d k : Nat), k ≤ s.size + 256 → impl_parsed.tEnd s d k ≤ s.size + 256 := by
  intro d
  induction d with
  | zero => intro k h; exact h
  | succ d ih =>
    intro k h
    rw [impl_parsed.tEnd]
    split
    · have := bt_range s (k : Int)
      exact ih _ (by omega)
    · exact h
theorem impl_parsed_tEnd (s : ByteArray) : ∀ (d k : Nat), s.size ≤ k + d → s.size ≤ impl_parsed.tEnd s d k ∧ k ≤ impl_parsed.tEnd s d k ∧ (impl_parsed.tEnd s d k = s.size ↔ (k ≤ s.size ∧ exact d ((L s).drop k) = true)) := by
  have hs := size_L s
  intro d
  induction d with
  | zero =>
    intro k h
    refine ⟨by rw [impl_parsed.tEnd]; omega, by rw [impl_parsed.tEnd]; omega, ?_⟩
    rw [impl_parsed.tEnd, List.drop_of_length_le (by omega)]
    simp [exact]
    omega
  | succ d ih =>
    intro k h
    rw [impl_parsed.tEnd]
    by_cases hk : k < s.size
    · have hl : k < (L s).length := by omega
      rw [if_pos hk, drop_at hl, exact, bt_get hl]
      generalize (L s)[k] = c
      have e : k + 1 + (c.toNat : Int).toNat = k + 1 + c.toNat := by omega
      rw [e]
      obtain ⟨h1, h2, h3⟩ := ih (k + 1 + c.toNat) (by omega)
      refine ⟨h1, by omega, ?_⟩
      rw [h3, List.drop_drop, List.length_drop]
      by_cases hc : (L s).length - (k + 1) < c.toNat
      · rw [if_pos hc]
        simp
        omega
      · rw [if_neg hc]
        exact ⟨fun h => ⟨by omega, h.2⟩, fun h => ⟨by omega, h.2⟩⟩
    · rw [if_neg hk, List.drop_of_length_le (by omega)]
      refine ⟨by omega, Nat.le_refl _, ?_⟩
      simp [exact]
      omega
theorem impl_parsed_n (s : ByteArray) (hs : s.size ≤ 65535) (K : Nat) (hK : 450000000 ≤ K) (c : UInt8) (hc : c.toNat ∈ [49, 50, 52, 103, 113, 110, 116, 99, 84, 109, 42]) (p : Nat) (hp : p ≤ s.size) (l : List UInt8) (hl : (L s).drop p = l) :
    ∃ o, impl_parsed.n K (c.toNat : Int) s p = some o ∧ (match o with | none => con c.toNat l = none | some n => 0 ≤ n ∧ n ≤ 100000 ∧ con c.toNat l = if (s.size : Int) < (p : Int) + n then none else some n.toNat) := by
  have hlen : l.length = s.size - p := by rw [← hl, List.length_drop, ← size_L]
  have hx : L (s.extract p s.size) = l := by rw [L_extract, hl, List.take_of_length_le (by omega)]
  have hxs : (s.extract p s.size).size = l.length := by rw [size_L, hx]
  have hbt : ∀ b t, l = b :: t → bt s (p : Int) = (b.toNat : Int) := fun b t e => by
    have h1 : p < (L s).length := by
      rw [← size_L]
      rw [e] at hlen
      simp at hlen
      omega
    rw [bt_get h1]
    rw [drop_at h1, e] at hl
    rw [(List.cons.inj hl).1]
  have fix : ∀ m : Nat, (if l.length < m then (none : Option Nat) else some m) = if (s.size : Int) < (p : Int) + (m : Int) then none else some ((m : Int)).toNat := by
    intro m
    by_cases h1 : l.length < m
    · rw [if_pos h1, if_pos (by omega)]
    · rw [if_neg h1, if_neg (by omega)]; rfl
  simp only [List.mem_cons, List.not_mem_nil, or_false] at hc
  rcases hc with h | h | h | h | h | h | h | h | h | h | h <;> rw [h]
  · exact ⟨some 1, by simp [impl_parsed.n], by decide, by decide, by unfold con; rw [if_pos rfl]; exact fix 1⟩
  · exact ⟨some 2, by simp [impl_parsed.n], by decide, by decide, by unfold con; rw [if_neg (by decide), if_pos rfl]; exact fix 2⟩
  · exact ⟨some 4, by simp [impl_parsed.n], by decide, by decide, by unfold con; rw [if_neg (by decide), if_neg (by decide), if_pos (by decide)]; exact fix 4⟩
  · exact ⟨some 4, by simp [impl_parsed.n], by decide, by decide, by unfold con; rw [if_neg (by decide), if_neg (by decide), if_pos (by decide)]; exact fix 4⟩
  · exact ⟨some 4, by simp [impl_parsed.n], by decide, by decide, by unfold con; rw [if_neg (by decide), if_neg (by decide), if_pos (by decide)]; exact fix 4⟩
  · have e1 : impl_parsed.n K ((110 : Nat) : Int) s p = (impl_nameAt.f K (s.extract p s.size)).bind fun n => some (if n = 0 then none else some n) := by unfold impl_parsed.n; simp
    have e2 : con 110 l = if nm l = 0 then none else some (nm l) := by unfold con; simp
    rw [e1, e2, impl_nameAt_eq _ (by omega) K (by omega), Option.bind_some, hx]
    have h1 := nm_le l
    by_cases h0 : nm l = 0
    · exact ⟨none, by rw [if_pos (by omega)], by rw [if_pos h0]⟩
    · exact ⟨some (nm l : Int), by rw [if_neg (by omega)], by omega, by omega, by rw [if_neg h0, if_neg (by omega)]; rfl⟩
  · have e1 : impl_parsed.n K ((116 : Nat) : Int) s p = some (if s.size ≤ p then none else some (1 + bt s (p : Int))) := by unfold impl_parsed.n; simp
    have e2 : con 116 l = if tx l = 0 then none else some (tx l) := by unfold con; simp
    rw [e1, e2]
    cases l with
    | nil => exact ⟨none, by rw [if_pos (by simp at hlen; omega)], rfl⟩
    | cons b t =>
      have hb := byte_le b
      simp only [List.length_cons] at hlen
      rw [hbt b t rfl, tx, if_neg (by omega)]
      refine ⟨_, rfl, by omega, by omega, ?_⟩
      by_cases h1 : t.length < b.toNat
      · rw [if_pos h1, if_pos rfl, if_pos (by omega)]
      · rw [if_neg h1, if_neg (by omega), if_neg (by omega)]
        congr 1
        omega
  · have e1 : impl_parsed.n K ((99 : Nat) : Int) s p = some (if s.size ≤ p then none else if 1 + bt s (p : Int) < 2 then none else if 16 < 1 + bt s (p : Int) then none else if (s.size : Int) < (p : Int) + (1 + bt s (p : Int)) then none else if (bytesOf (s.extract (p + 1) (p + (1 + bt s (p : Int)).toNat))).all impl_parsed.alnum then some (1 + bt s (p : Int)) else none) := by unfold impl_parsed.n; simp
    have e2 : con 99 l = if tx l < 2 ∨ 16 < tx l then none else if ((l.take (tx l)).drop 1).all alnum then some (tx l) else none := by unfold con; simp
    rw [e1, e2]
    cases l with
    | nil => exact ⟨none, by rw [if_pos (by simp at hlen; omega)], rfl⟩
    | cons b t =>
      have hb := byte_le b
      simp only [List.length_cons] at hlen
      rw [hbt b t rfl, if_neg (by omega)]
      have hdt : (L s).drop (p + 1) = t := by
        rw [← List.drop_drop, hl]
        rfl
      by_cases h1 : t.length < b.toNat
      · have h2 : tx (b :: t) = 0 := by rw [tx, if_pos h1]
        rw [h2, if_pos (show ((0 : Nat) < 2 ∨ 16 < (0 : Nat)) from .inl (by decide))]
        refine ⟨none, ?_, rfl⟩
        by_cases g1 : (1 : Int) + b.toNat < 2
        · rw [if_pos g1]
        · rw [if_neg g1]
          by_cases g2 : 16 < (1 : Int) + b.toNat
          · rw [if_pos g2]
          · rw [if_neg g2, if_pos (by omega)]
      · have h2 : tx (b :: t) = b.toNat + 1 := by rw [tx, if_neg h1]
        rw [h2]
        by_cases g1 : (1 : Int) + b.toNat < 2
        · exact ⟨none, by rw [if_pos g1], by rw [if_pos (show (b.toNat + 1 < 2 ∨ 16 < b.toNat + 1) by omega)]⟩
        · by_cases g2 : 16 < (1 : Int) + b.toNat
          · exact ⟨none, by rw [if_neg g1, if_pos g2], by rw [if_pos (show (b.toNat + 1 < 2 ∨ 16 < b.toNat + 1) by omega)]⟩
          · rw [if_neg g1, if_neg g2, if_neg (show ¬ ((s.size : Int) < (p : Int) + ((1 : Int) + b.toNat)) by omega), if_neg (show ¬ (b.toNat + 1 < 2 ∨ 16 < b.toNat + 1) by omega)]
            have h3 : (bytesOf (s.extract (p + 1) (p + ((1 : Int) + b.toNat).toNat))).all impl_parsed.alnum = (((b :: t).take (b.toNat + 1)).drop 1).all alnum := by
              have h4 : bytesOf (s.extract (p + 1) (p + ((1 : Int) + b.toNat).toNat)) = (L (s.extract (p + 1) (p + ((1 : Int) + b.toNat).toNat))).map fun c => (c.toNat : Int) := rfl
              rw [h4, L_extract, hdt, show p + ((1 : Int) + b.toNat).toNat - (p + 1) = b.toNat from by omega, List.all_map]
              rw [List.take_succ_cons, List.drop_succ_cons, List.drop_zero]
              congr 1
              funext c
              exact impl_parsed_alnum c
            rw [h3]
            by_cases g3 : (((b :: t).take (b.toNat + 1)).drop 1).all alnum = true
            · rw [if_pos g3, if_pos g3]
              refine ⟨_, rfl, by omega, by omega, ?_⟩
              rw [if_neg (by omega)]
              congr 1
              omega
            · rw [if_neg g3, if_neg g3]
              exact ⟨none, rfl, rfl⟩
  · have e1 : impl_parsed.n K ((84 : Nat) : Int) s p = some (if impl_parsed.tEnd s (s.size - p) p = p then none else some ((impl_parsed.tEnd s (s.size - p) p : Int) - p)) := by unfold impl_parsed.n; simp
    have e2 : con 84 l = if l = [] then none else if exact l.length l then some l.length else none := by unfold con; simp
    rw [e1, e2]
    obtain ⟨h1, h2, h3⟩ := impl_parsed_tEnd s (s.size - p) p (by omega)
    have h4 := impl_parsed_tMost s (s.size - p) p (by omega)
    have hex : exact (s.size - p) l = exact l.length l := by rw [hlen]
    rw [hl, hex] at h3
    generalize impl_parsed.tEnd s (s.size - p) p = e at *
    by_cases hn : l = []
    · have h0 : l.length = 0 := by rw [hn]; rfl
      have h5 : exact l.length l = true := by rw [hn]; rfl
      have h6 := h3.2 ⟨hp, h5⟩
      exact ⟨none, by rw [if_pos (by omega)], by rw [if_pos hn]⟩
    · have h0 : l.length ≠ 0 := fun h => hn (List.eq_nil_of_length_eq_zero h)
      refine ⟨some ((e : Int) - p), by rw [if_neg (by omega)], by omega, by omega, ?_⟩
      rw [if_neg hn]
      by_cases h5 : exact l.length l = true
      · have h6 := h3.2 ⟨hp, h5⟩
        rw [if_pos h5, if_neg (by omega)]
        congr 1
        omega
      · have h6 : ¬ e = s.size := fun h => h5 (h3.1 h).2
        rw [if_neg h5, if_pos (by omega)]
  · have e1 : impl_parsed.n K ((109 : Nat) : Int) s p = (impl_MapTypes.f K (s.extract p s.size)).bind fun r => some (if r.2 = 0 then some ((s.size : Int) - p) else none) := by unfold impl_parsed.n; simp
    have e2 : con 109 l = if (tmap (-1) l).isSome then some l.length else none := by unfold con; simp
    rw [e1, e2, impl_MapTypes_eq _ (by omega) K (by omega), Option.bind_some, hx]
    cases tmap (-1) l with
    | none => exact ⟨none, by rw [mres, if_neg (by decide)], rfl⟩
    | some ts => exact ⟨some ((s.size : Int) - p), by rw [mres, if_pos rfl], by omega, by omega, by rw [Option.isSome_some, if_pos rfl, if_neg (by omega)]; congr 1; omega⟩
  · exact ⟨some ((s.size : Int) - p), by simp [impl_parsed.n], by omega, by omega, by unfold con; simp; omega⟩
theorem impl_parsed_go (s : ByteArray) (hs : s.size ≤ 65535) (K : Nat) (hK : 450000000 ≤ K) : ∀ (r : List UInt8) (p : Nat) (sp : List _), letters r → p ≤ s.size → ∃ sp', impl_parsed.go K s r p sp = some (sp', pg r ((L s).drop p)) := by
  intro r
  induction r with
  | nil =>
    intro p sp _ hp
    refine ⟨sp, ?_⟩
    rw [impl_parsed.go, pg]
    congr 2
    rw [Bool.eq_iff_iff, List.isEmpty_iff, List.drop_eq_nil_iff, ← size_L, beq_iff_eq]
    omega
  | cons c r ih =>
    intro p sp hr hp
    obtain ⟨o, h1, h2⟩ := impl_parsed_n s hs K hK c (hr c (by simp)) p hp _ rfl
    rw [impl_parsed.go, h1, Option.bind_some, pg]
    cases o with
    | none =>
      simp only at h2
      rw [h2]
      exact ⟨[], rfl⟩
    | some n =>
      simp only at h2
      obtain ⟨h3, h4, h5⟩ := h2
      simp only
      rw [if_neg (by omega), h5]
      by_cases h6 : (s.size : Int) < (p : Int) + n
      · rw [if_pos h6, if_pos h6]
        exact ⟨[], rfl⟩
      · rw [if_neg h6, if_neg h6]
        obtain ⟨sp', h7⟩ := ih (p + n.toNat) _ (fun x hx => hr x (by simp [hx])) (by omega)
        refine ⟨sp', ?_⟩
        rw [h7]
        simp only [List.drop_drop]

end Go.Proofs.YtbaajohjglhpfaaDoor.Pure
