/- What the card's condition says of the package variable 'forms', for the walks: the variable's block and its map's block lie there, and every look-up answers as 'formOf' says. -/
import Derived.Test.YtbaajohjglhpfaaDoorRows
import Derived.Test.YtbaajohjglhpfaaDoorFx5003
import Derived.WalkKit
import Derived.ProofKit
import Derived.LaidMore
import Derived.OpenShut
import Derived.Maps.Own
import Derived.Maps.StringElems
import Derived.Stop.Joined
namespace Go.Proofs.YtbaajohjglhpfaaDoor.XGlob
open Go Go.RowKit Go.ChangeShapes Go.WideShapes Go.ChangeAt Go.WideMaps Go.WideElems Go.Maps
open Go.Proofs.YtbaajohjglhpfaaDoor.F
abbrev laidF {H : Type} : List (String × DataW H) := [("loop.example/s01858/impl.forms", Rows.laid_loop_example_s01858_impl_forms)]
theorem gForms : Tryd.prog.globalNamed "loop.example/s01858/impl.forms" = some 0 := by kernel_rfl
theorem tForms : (Tryd.prog.globals[0]?).map (·.type) = some 54 := by kernel_rfl
theorem door_met (os : Os) (args : Array Value) : laidMetH Tryd.prog (laidF (H := Unit)) ((World.doorLaid Tryd.prog 84 os).forCall (fun _ _ => 0) ⟨#[], args, []⟩).memory :=
  laidMetH_of_parts3 (fuel := 8) (laidMet_of_run' 8 (by kernel_rfl) (by kernel_rfl)) (by kernel_rfl) (by kernel_rfl)
theorem forms_at (k : Int) : (Rows.laid_loop_example_s01858_impl_forms (H := Unit)).atKey (.int .i64 k) .nil = (match formOf k with | none => .nil | some f => .lit (.string f.data.toList)) := by
  have e1 : ∀ n : Int, (Lit.int .i64 n).sameKey (Lit.int .i64 k) = decide (k = n) := fun n => decide_eq_decide.mpr ⟨fun h => h.2.symm, fun h => ⟨rfl, h.symm⟩⟩
  unfold Rows.laid_loop_example_s01858_impl_forms formOf
  simp only [DataW.atKey, List.find?, e1]
  by_cases c1 : k = 1
  · subst c1; rfl
  by_cases c2 : k = 2
  · subst c2; rfl
  by_cases c5 : k = 5
  · subst c5; rfl
  by_cases c6 : k = 6
  · subst c6; rfl
  by_cases c12 : k = 12
  · subst c12; rfl
  by_cases c13 : k = 13
  · subst c13; rfl
  by_cases c15 : k = 15
  · subst c15; rfl
  by_cases c16 : k = 16
  · subst c16; rfl
  by_cases c28 : k = 28
  · subst c28; rfl
  by_cases c33 : k = 33
  · subst c33; rfl
  by_cases c35 : k = 35
  · subst c35; rfl
  by_cases c39 : k = 39
  · subst c39; rfl
  by_cases c47 : k = 47
  · subst c47; rfl
  by_cases c257 : k = 257
  · subst c257; rfl
  rw [decide_eq_false c1, decide_eq_false c2, decide_eq_false c5, decide_eq_false c6, decide_eq_false c12, decide_eq_false c13, decide_eq_false c15, decide_eq_false c16, decide_eq_false c28, decide_eq_false c33, decide_eq_false c35, decide_eq_false c39, decide_eq_false c47, decide_eq_false c257]
  rw [if_neg c1, if_neg c2, if_neg c5, if_neg c6, if_neg c12, if_neg c13, if_neg c15, if_neg c16, if_neg c28, if_neg c33, if_neg c35, if_neg c39, if_neg c47, if_neg c257]
theorem glob_of_laid {W : World} (h : laidMetH Tryd.prog (laidF (H := Unit)) W) : Glob W := by
  rw [MakeChecks.laidMetH_plain _ _ _ (by kernel_rfl)] at h
  obtain ⟨ps, ⟨g0, t0, cs0, f0, p0, q0, hg0, ht0, hv0, hd0, _, _⟩, _, _⟩ := h
  obtain rfl := Option.some.inj (gForms.symm.trans hg0)
  obtain rfl := Option.some.inj (tForms.symm.trans ht0)
  rcases open_map Tryd.underlying54 hd0 with ⟨_, hx⟩ | ⟨bm, es, clock, m, rfl, hcs, hb, _, F, hx⟩
  · simp [Rows.laid_loop_example_s01858_impl_forms] at hx
  simp only [Prod.mk.injEq] at hx
  have hcell : W.cell? ⟨0, 0, none⟩ = some (.map (some bm)) := by
    have := World.var?_cell hg0 hv0 0
    rw [Array.eq_one_of_toList hcs] at this
    simpa using this
  obtain ⟨og, hog⟩ : ∃ og, W.heap[0]? = some og := by
    cases hh : W.heap[0]? with
    | none => simp [World.cell?, hh] at hcell
    | some og => exact ⟨og, rfl⟩
  refine ⟨bm, og, _, hog, hb, fun W' hW' => ?_, fun W' k hW' hk => ?_⟩
  · rw [← hcell]
    exact World.cell?_of_block (hW'.trans hog.symm)
  · have hk2 := keyOf_int_mk (P := Tryd.prog) Tryd.underlying2 hk
    have zero : (zeroValue 9).run Tryd.prog W' = .ok (.string ⟨#[]⟩) W' := by kernel_rfl
    rcases fit_look (w := W') true (int_keyed Tryd.underlying2) Tryd.underlying54 zero hW' F hk2 with ⟨hrun, _, hat⟩ | ⟨e0, y, _, _, hrun, hRv, hat, _⟩
    · have := hat .nil
      rw [← hx.1, forms_at] at this
      cases hf : formOf k with
      | none => simpa [hf] using hrun
      | some f => simp [hf] at this
    · have := hat .nil
      rw [← hx.1, forms_at] at this
      obtain ⟨s, hv, hz, _⟩ := plainElem_string_inv Tryd.underlying9 (elemAt_plainElem_string Tryd.underlying9 hRv)
      rw [hz] at this
      rw [hv] at hrun
      cases hf : formOf k with
      | none => simp [hf] at this
      | some f =>
        have e : f = s := by
          rw [hf] at this
          simp only [DataW.lit.injEq, Lit.string.injEq] at this
          cases f
          cases s
          simp only [ByteArray.mk.injEq]
          exact Array.ext' this
        subst e
        simpa [hf] using hrun
end Go.Proofs.YtbaajohjglhpfaaDoor.XGlob
