-- Written by a program of this session (wip/myprint.py, over the kit's print). Not trusted: Lean checks it.
import Derived.Test.YtbaajohjglhpfaaDoorFx0
namespace Go.Proofs.YtbaajohjglhpfaaDoor.F
open Go Go.Shelf Go.RowKit Go.Proofs.YtbaajohjglhpfaaDoorW.PrintWords Go.Proofs.YtbaajohjglhpfaaDoorW.PrintLast Go.Proofs.YtbaajohjglhpfaaDoorW.PrintMore
attribute [local go_sem] max2_int min2_int max_two min_two max_three min_three max_four min_four   -- for this text's walks alone
set_option linter.unusedVariables false
set_option linter.unusedSimpArgs false

/-! ### stands 3 -/
-- stands: the package variable 'forms', as the card lays it
/-- The form of a type's data. -/
def formOf (t : Int) : Option ByteArray :=
  if t = 1 then some ⟨#[52]⟩ else if t = 2 then some ⟨#[110]⟩ else if t = 5 then some ⟨#[110]⟩ else if t = 6 then some ⟨#[110, 110, 103, 103, 103, 103, 113]⟩
  else if t = 12 then some ⟨#[110]⟩ else if t = 13 then some ⟨#[116, 116]⟩ else if t = 15 then some ⟨#[50, 110]⟩ else if t = 16 then some ⟨#[84]⟩ else if t = 28 then some ⟨#[103, 103, 103, 103]⟩
  else if t = 33 then some ⟨#[50, 50, 50, 110]⟩ else if t = 35 then some ⟨#[50, 50, 116, 116, 116, 110]⟩ else if t = 39 then some ⟨#[110]⟩ else if t = 47 then some ⟨#[110, 109]⟩ else if t = 257 then some ⟨#[49, 99, 42]⟩ else none
/-- The variable's block and its map's block lie there; whatever world holds these two blocks answers the look-ups. -/
def Glob (w : World) : Prop := ∃ (bm : Nat) (og om : Obj), w.heap[0]? = some og ∧ w.heap[bm]? = some om ∧
  (∀ W : World, W.heap[0]? = some og → W.cell? ⟨0, 0, none⟩ = some (.map (some bm))) ∧
  (∀ (W : World) (k : Int), W.heap[bm]? = some om → (Lit.int .i64 k).wf = true → (Instr.lookup 54 (.map (some bm)) (.int .i64 k) true).run Tryd.prog W = .ok (.tuple #[.string ((formOf k).getD ⟨#[]⟩), .bool (formOf k).isSome]) W)
theorem Glob.below {w W : World} (h : Glob w) (hb : Below w.heap.size w W) : Glob W := by
  obtain ⟨bm, og, om, h1, h2, h3⟩ := h
  exact ⟨bm, og, om, blk_below h1 hb, blk_below h2 hb, h3⟩
theorem Glob.alloc {w : World} (h : Glob w) (o : Obj) : Glob (w.alloc o) := h.below (below_alloc (Below.refl _ _) o)
theorem Glob.drew {w : World} (h : Glob w) : Glob w.drew := h
theorem Glob.drewN {w : World} (h : Glob w) (n : Nat) : Glob (w.drewN n) := h

end Go.Proofs.YtbaajohjglhpfaaDoor.F
