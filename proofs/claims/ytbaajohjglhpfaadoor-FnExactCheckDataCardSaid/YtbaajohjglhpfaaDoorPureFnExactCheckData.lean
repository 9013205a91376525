/- The pure statement of FnExactCheckData: what the program computes is what the law asks, at every argument. No condition beyond the statement's own. -/
import Derived.Test.YtbaajohjglhpfaaDoorFx1003
import Derived.Test.YtbaajohjglhpfaaDoorFx1009
import Derived.Test.YtbaajohjglhpfaaDoorFx1010
import Derived.Test.YtbaajohjglhpfaaDoorFx1024
import Derived.Test.YtbaajohjglhpfaaDoorFx1026
import Derived.Test.YtbaajohjglhpfaaDoorBase
import Derived.Test.YtbaajohjglhpfaaDoorBaseForm
import Derived.Test.YtbaajohjglhpfaaDoorUimplparsed
import Derived.Test.YtbaajohjglhpfaaDoorUspecl02Form
import Derived.Test.YtbaajohjglhpfaaDoorUspecl02Parts
namespace Go.Proofs.YtbaajohjglhpfaaDoor.Pure
open Go.RowKit Go.Proofs.YtbaajohjglhpfaaDoor.F Go.Proofs.YtbaajohjglhpfaaDoor.Base Go.Proofs.YtbaajohjglhpfaaDoorW.PrintWords Go.Proofs.YtbaajohjglhpfaaDoorW.PrintLast Go.Proofs.YtbaajohjglhpfaaDoorW.PrintMore
set_option linter.unusedVariables false
set_option linter.unusedSimpArgs false
-- base: BaseForm
theorem forms_T (l : List UInt8) : pg [84] l = spg [115] l := by
  have e1 : con 84 l = if l = [] then none else if exact l.length l then some l.length else none := by unfold con; simp
  have e2 : scon 115 l = if runs l.length l = 0 then none else some (runs l.length l) := by unfold scon; simp
  have h := exact_runs l.length l (Nat.le_refl _)
  have h2 := runs_le l.length l
  rw [pg, spg]
  show (match con 84 l with | none => false | some n => pg [] (l.drop n)) = (match scon 115 l with | none => false | some n => spg [] (l.drop n))
  rw [e1, e2]
  by_cases hn : l = []
  · subst hn; rfl
  · have h0 : l.length ≠ 0 := fun e => hn (List.eq_nil_of_length_eq_zero e)
    rw [if_neg hn]
    by_cases hx : exact l.length l = true
    · have h3 := h.1 hx
      rw [if_pos hx, if_neg (by omega), h3]
      rfl
    · have h3 : runs l.length l ≠ l.length := fun e => hx (h.2 e)
      rw [if_neg hx]
      by_cases h4 : runs l.length l = 0
      · rw [if_pos h4]
      · rw [if_neg h4]
        show false = (l.drop (runs l.length l)).isEmpty
        symm
        rw [Bool.eq_false_iff]
        intro e
        rw [List.isEmpty_iff, List.drop_eq_nil_iff] at e
        omega
theorem forms_c (l : List UInt8) : pg [99, 42] l = spg [99] l := by
  have e1 : con 99 l = if tx l < 2 ∨ 16 < tx l then none else if ((l.take (tx l)).drop 1).all alnum then some (tx l) else none := by unfold con; simp
  have e2 : scon 99 l = if tx l < 2 ∨ 16 < tx l then none else if ((l.take (tx l)).drop 1).all alnum then some l.length else none := by unfold scon; simp
  have e3 : ∀ x : List UInt8, pg [42] x = true := fun x => by
    have : con 42 x = some x.length := by unfold con; simp
    rw [pg]
    show (match con 42 x with | none => false | some n => pg [] (x.drop n)) = true
    rw [this]
    simp [pg]
  rw [pg, spg]
  show (match con 99 l with | none => false | some n => pg [42] (l.drop n)) = (match scon 99 l with | none => false | some n => spg [] (l.drop n))
  rw [e1, e2]
  by_cases h1 : tx l < 2 ∨ 16 < tx l
  · rw [if_pos h1, if_pos h1]
  · rw [if_neg h1, if_neg h1]
    by_cases h2 : ((l.take (tx l)).drop 1).all alnum = true
    · rw [if_pos h2, if_pos h2]
      simp [e3, spg]
    · rw [if_neg h2, if_neg h2]
theorem forms_m (l : List UInt8) : pg [109] l = spg [109] l := by
  have e1 : con 109 l = if (tmap (-1) l).isSome then some l.length else none := by unfold con; simp
  have e2 : scon 109 l = if (tmap (-1) l).isSome then some l.length else none := by unfold scon; simp
  rw [pg, spg]
  show (match con 109 l with | none => false | some n => pg [] (l.drop n)) = (match scon 109 l with | none => false | some n => spg [] (l.drop n))
  rw [e1, e2]
  rfl
theorem forms_star (l : List UInt8) : spg [42] l = true := by
  have : scon 42 l = some l.length := by unfold scon; simp
  rw [spg]
  show (match scon 42 l with | none => false | some n => spg [] (l.drop n)) = true
  rw [this]
  simp [spg]
/-- The two forms of a type tell the same data. -/
theorem forms_same (t : Int) (l : List UInt8) : (match formOf t with | none => true | some f => pg f.data.toList l) = spg (sform t) l := by
  by_cases c1 : t = 1
  · subst c1; show pg [52] l = spg [98, 98, 98, 98] l; rw [pg_4, spg_b4]; rfl
  by_cases c2 : t = 2
  · subst c2; show pg [110] l = spg [110] l; rw [pg_n, spg_n]; rfl
  by_cases c5 : t = 5
  · subst c5; show pg [110] l = spg [110] l; rw [pg_n, spg_n]; rfl
  by_cases c6 : t = 6
  · subst c6; show pg [110, 110, 103, 103, 103, 103, 113] l = spg [110, 110, 98, 98, 98, 98, 98, 98, 98, 98, 98, 98, 98, 98, 98, 98, 98, 98, 98, 98, 98, 98] l; rw [pg_n, pg_n, pg_g, pg_g, pg_g, pg_g, pg_q, spg_n, spg_n, spg_b4, spg_b4, spg_b4, spg_b4, spg_b4]; rfl
  by_cases c12 : t = 12
  · subst c12; show pg [110] l = spg [110] l; rw [pg_n, spg_n]; rfl
  by_cases c13 : t = 13
  · subst c13; show pg [116, 116] l = spg [116, 116] l; rw [pg_t, pg_t, spg_t, spg_t]; rfl
  by_cases c15 : t = 15
  · subst c15; show pg [50, 110] l = spg [98, 98, 110] l; rw [pg_2, pg_n, spg_bb, spg_n]; rfl
  by_cases c16 : t = 16
  · subst c16; exact forms_T l
  by_cases c28 : t = 28
  · subst c28; show pg [103, 103, 103, 103] l = spg [98, 98, 98, 98, 98, 98, 98, 98, 98, 98, 98, 98, 98, 98, 98, 98] l; rw [pg_g, pg_g, pg_g, pg_g, spg_b4, spg_b4, spg_b4, spg_b4]; rfl
  by_cases c33 : t = 33
  · subst c33; show pg [50, 50, 50, 110] l = spg [98, 98, 98, 98, 98, 98, 110] l; rw [pg_2, pg_2, pg_2, pg_n, spg_bb, spg_bb, spg_bb, spg_n]; rfl
  by_cases c35 : t = 35
  · subst c35; show pg [50, 50, 116, 116, 116, 110] l = spg [98, 98, 98, 98, 116, 116, 116, 110] l; rw [pg_2, pg_2, pg_t, pg_t, pg_t, pg_n, spg_bb, spg_bb, spg_t, spg_t, spg_t, spg_n]; rfl
  by_cases c39 : t = 39
  · subst c39; show pg [110] l = spg [110] l; rw [pg_n, spg_n]; rfl
  by_cases c47 : t = 47
  · subst c47; show pg [110, 109] l = spg [110, 109] l; rw [pg_n, spg_n, forms_m]
  by_cases c257 : t = 257
  · subst c257; show pg [49, 99, 42] l = spg [98, 99] l; rw [pg_1, spg_b, forms_c]
  have e1 : formOf t = none := by
    unfold formOf
    simp only [if_neg c1, if_neg c2, if_neg c5, if_neg c6, if_neg c12, if_neg c13, if_neg c15, if_neg c16, if_neg c28, if_neg c33, if_neg c35, if_neg c39, if_neg c47, if_neg c257]
  have e2 : sform t = [42] := by
    unfold sform
    rw [if_neg c1, if_neg (show ¬ (t = 2 ∨ t = 5 ∨ t = 12 ∨ t = 39) by omega)]
    simp only [if_neg c6, if_neg c13, if_neg c15, if_neg c16, if_neg c28, if_neg c33, if_neg c35, if_neg c47, if_neg c257]
  rw [e1, e2, forms_star]
theorem letters_of {t : Int} {f : ByteArray} (h : formOf t = some f) : letters f.data.toList := by
  unfold formOf at h
  by_cases c1 : t = 1
  · rw [if_pos c1] at h
    obtain rfl := Option.some.inj h
    unfold letters
    decide
  rw [if_neg c1] at h
  by_cases c2 : t = 2
  · rw [if_pos c2] at h
    obtain rfl := Option.some.inj h
    unfold letters
    decide
  rw [if_neg c2] at h
  by_cases c5 : t = 5
  · rw [if_pos c5] at h
    obtain rfl := Option.some.inj h
    unfold letters
    decide
  rw [if_neg c5] at h
  by_cases c6 : t = 6
  · rw [if_pos c6] at h
    obtain rfl := Option.some.inj h
    unfold letters
    decide
  rw [if_neg c6] at h
  by_cases c12 : t = 12
  · rw [if_pos c12] at h
    obtain rfl := Option.some.inj h
    unfold letters
    decide
  rw [if_neg c12] at h
  by_cases c13 : t = 13
  · rw [if_pos c13] at h
    obtain rfl := Option.some.inj h
    unfold letters
    decide
  rw [if_neg c13] at h
  by_cases c15 : t = 15
  · rw [if_pos c15] at h
    obtain rfl := Option.some.inj h
    unfold letters
    decide
  rw [if_neg c15] at h
  by_cases c16 : t = 16
  · rw [if_pos c16] at h
    obtain rfl := Option.some.inj h
    unfold letters
    decide
  rw [if_neg c16] at h
  by_cases c28 : t = 28
  · rw [if_pos c28] at h
    obtain rfl := Option.some.inj h
    unfold letters
    decide
  rw [if_neg c28] at h
  by_cases c33 : t = 33
  · rw [if_pos c33] at h
    obtain rfl := Option.some.inj h
    unfold letters
    decide
  rw [if_neg c33] at h
  by_cases c35 : t = 35
  · rw [if_pos c35] at h
    obtain rfl := Option.some.inj h
    unfold letters
    decide
  rw [if_neg c35] at h
  by_cases c39 : t = 39
  · rw [if_pos c39] at h
    obtain rfl := Option.some.inj h
    unfold letters
    decide
  rw [if_neg c39] at h
  by_cases c47 : t = 47
  · rw [if_pos c47] at h
    obtain rfl := Option.some.inj h
    unfold letters
    decide
  rw [if_neg c47] at h
  by_cases c257 : t = 257
  · rw [if_pos c257] at h
    obtain rfl := Option.some.inj h
    unfold letters
    decide
  rw [if_neg c257] at h
  cases h
theorem sletters_of (t : Int) : sletters (sform t) ∧ (sform t).length ≤ 100 := by
  unfold sform
  repeat' split
  all_goals exact ⟨by unfold sletters; decide, by decide⟩
theorem impl_parsed_f (t : Int) (ht : (Lit.int .i64 t).wf = true) (s : ByteArray) (hs : s.size ≤ 65535) (K : Nat) (hK : 450000000 ≤ K) : ∃ sp, impl_parsed.f K t s = some (sp, spg (sform t) (L s)) := by
  unfold impl_parsed.f
  rw [if_neg (by omega), if_pos ht, ← forms_same]
  cases h : formOf t with
  | none => exact ⟨[], rfl⟩
  | some f => exact impl_parsed_go s hs K hK _ 0 [] (letters_of h) (Nat.zero_le _)
theorem spec_parts_f (t : Int) (s : ByteArray) (hs : s.size ≤ 65535) (K : Nat) (hK : 450000000 ≤ K) : ∃ out, spec_l02Parts.f K (B (sform t)) s = some (out, spg (sform t) (L s)) := by
  obtain ⟨h1, h2⟩ := sletters_of t
  have h3 : (B (sform t)).data.toList = sform t := L_B _
  have h4 : (B (sform t)).size = (sform t).length := by rw [size_L, L_B]
  unfold spec_l02Parts.f
  rw [if_neg (by omega), h3]
  exact spec_l02Parts_go K hK _ s [] h1 hs (by simp; omega)
theorem CheckData_both (t : Int) (ht : (Lit.int .i64 t).wf = true) (s : ByteArray) (K : Nat) (hK : 450000001 ≤ K) : ∃ r, spec_CheckData.f K t s = some r ∧ impl_CheckData.f K t s = some r := by
  obtain ⟨K, rfl⟩ : ∃ m, K = m + 1 := ⟨K - 1, by omega⟩
  have key : ∀ b : Bool, ∃ r, spec_CheckData.j0 (K + 1) t s b = some r ∧ impl_CheckData.j0 (K + 1) t s b = some r := by
    intro b
    cases b with
    | true => exact ⟨6, by rw [spec_CheckData.j0, if_pos rfl], by rw [impl_CheckData.j0, if_pos rfl]⟩
    | false =>
      have hF : ¬ (false = true) := by decide
      by_cases h : (s.size : Int) > 65535
      · exact ⟨7, by rw [spec_CheckData.j0, if_neg hF, if_pos h], by rw [impl_CheckData.j0, if_neg hF, if_pos h]⟩
      · rw [show spec_CheckData.j0 (K + 1) t s false = _ from by rw [spec_CheckData.j0, if_neg hF, if_neg h], show impl_CheckData.j0 (K + 1) t s false = _ from by rw [impl_CheckData.j0, if_neg hF, if_neg h]]
        obtain ⟨out, e1⟩ := spec_parts_f t s (by omega) K (by omega)
        obtain ⟨sp, e2⟩ := impl_parsed_f t ht s (by omega) K (by omega)
        rw [spec_l02Form_eq t K (by omega), Option.bind_some, e1, e2, Option.bind_some, Option.bind_some]
        cases spg (sform t) (L s)
        · exact ⟨7, rfl, rfl⟩
        · exact ⟨0, rfl, rfl⟩
  unfold spec_CheckData.f impl_CheckData.f
  by_cases h : t < 0
  · rw [if_pos h, if_pos h]; exact key true
  · rw [if_neg h, if_neg h]; exact key _
theorem FnExactCheckData : laws_FnExactCheckData.Pure := by
  intro t s ht _
  refine ⟨450000001, ?_⟩
  unfold laws_FnExactCheckData.f
  by_cases h : (s.size : Int) > 1048576
  · rw [if_pos h]
  · obtain ⟨r, e1, e2⟩ := CheckData_both t ht s 450000001 (Nat.le_refl _)
    rw [if_neg h, e1, Option.bind_some, e2, Option.bind_some, if_pos rfl]

end Go.Proofs.YtbaajohjglhpfaaDoor.Pure
