-- Written by a program of this session (wip/myprint.py, over the kit's print). Not trusted: Lean checks it.
import Derived.Test.YtbaajohjglhpfaaDoorFx0
namespace Go.Proofs.YtbaajohjglhpfaaDoor.F
open Go Go.Shelf Go.RowKit Go.Proofs.YtbaajohjglhpfaaDoorW.PrintWords Go.Proofs.YtbaajohjglhpfaaDoorW.PrintLast Go.Proofs.YtbaajohjglhpfaaDoorW.PrintMore
attribute [local go_sem] max2_int min2_int max_two min_two max_three min_three max_four min_four   -- for this text's walks alone
set_option linter.unusedVariables false
set_option linter.unusedSimpArgs false

/-! ### stands 4 -/
-- stands: the boxes, the iterator and the spans of 'parsed'
def PInv (w : World) (form s : ByteArray) (wr : World) (pos at_ : Nat) (v : Value) (sp : List S46) : Prop :=
  wr.heap[w.heap.size]? = some (.cells #[.string s] 9 (0, 0)) ∧ wr.heap[w.heap.size + 1]? = some (.cells #[.int .i64 (at_ : Int)] 3 (0, 0)) ∧ wr.heap[w.heap.size + 1 + 1]? = some (.stringIter form pos) ∧
  Kd.R k46 46 wr w.heap.size (fun k => k ≠ w.heap.size ∧ k ≠ w.heap.size + 1 ∧ k ≠ w.heap.size + 1 + 1) v sp ∧ Below w.heap.size w wr
section
variable {w wr W : World} {form s : ByteArray} {pos at_ : Nat} {v : Value} {sp : List S46}
theorem PInv.below (h : PInv w form s wr pos at_ v sp) (hb : Below wr.heap.size wr W) : PInv w form s W pos at_ v sp :=
  ⟨blk_below h.1 hb, blk_below h.2.1 hb, blk_below h.2.2.1 hb, Kd.R_below h.2.2.2.1 hb, below_step h.2.2.2.2 hb⟩
theorem PInv.alloc (h : PInv w form s wr pos at_ v sp) (o : Obj) : PInv w form s (wr.alloc o) pos at_ v sp := h.below (below_alloc (Below.refl _ _) o)
theorem PInv.drew (h : PInv w form s wr pos at_ v sp) : PInv w form s wr.drew pos at_ v sp := h.below (below_drew (Below.refl _ _))
theorem PInv.drewN (h : PInv w form s wr pos at_ v sp) (n : Nat) : PInv w form s (wr.drewN n) pos at_ v sp := h.below (pw_below_drewN (Below.refl _ _) n)
theorem PInv.put (h : PInv w form s wr pos at_ v sp) (b : Nat) : PInv w form s (wr.setCell ⟨w.heap.size + 1, 0, none⟩ (.int .i64 (b : Int))) pos b v sp := by
  obtain ⟨h0, h1, h2, h3, h4⟩ := h
  have hne : ∀ k, k ≠ w.heap.size + 1 → (wr.setCell ⟨w.heap.size + 1, 0, none⟩ (.int .i64 (b : Int))).heap[k]? = wr.heap[k]? := fun k hk => Below.heap_setCell wr _ _ k hk
  exact ⟨(hne _ (by omega)).trans h0, one_setCell h1, (hne _ (by omega)).trans h2, Kd.R_step h3 (fun k hk _ => hne k hk.2.1), h4.setCell (by show w.heap.size ≤ w.heap.size + 1; omega) _⟩
theorem PInv.spans (h : PInv w form s wr pos at_ v sp) {v1 : Value} {sp1 : List S46} (hr : Kd.R k46 46 W w.heap.size (fun k => k ≠ w.heap.size ∧ k ≠ w.heap.size + 1 ∧ k ≠ w.heap.size + 1 + 1) v1 sp1) (hb : Below w.heap.size w W) (hg : wr.grownBy W v.ownBlock) : PInv w form s W pos at_ v1 sp1 := by
  obtain ⟨h0, h1, h2, h3, h4⟩ := h
  have hk := h3.1
  have hne : ∀ k o, wr.heap[k]? = some o → (k = w.heap.size ∨ k = w.heap.size + 1 ∨ k = w.heap.size + 1 + 1) → W.heap[k]? = some o := by
    intro k o ho hc
    refine (hg.block k (lt_of_block ho) (fun e => ?_)).trans ho
    have := hk k e.symm
    omega
  exact ⟨hne _ _ h0 (by omega), hne _ _ h1 (by omega), hne _ _ h2 (by omega), hr, hb⟩
theorem PInv.next_ {P : Program} (h : PInv w form s wr pos at_ v sp) (hp : pos < form.size) (ha : (form[pos]'hp).toNat < 128) :
    ∃ W, (∀ ty, (Instr.next (.pointer (some ⟨w.heap.size + 1 + 1, 0, none⟩)) true ty).run P wr = .ok (.tuple #[.bool true, .int .i64 pos, .int .i32 (form[pos]'hp).toNat]) W) ∧ PInv w form s W (pos + 1) at_ v sp := by
  obtain ⟨h0, h1, h2, h3, h4⟩ := h
  have hlt := lt_of_block h2
  have hne : ∀ k, k ≠ w.heap.size + 1 + 1 → (wr.heap.setIfInBounds (w.heap.size + 1 + 1) (.stringIter form (pos + 1)))[k]? = wr.heap[k]? := fun k hk => by
    rw [Array.getElem?_setIfInBounds, if_neg (fun e => hk e.symm)]
  refine ⟨{ wr with heap := wr.heap.setIfInBounds (w.heap.size + 1 + 1) (.stringIter form (pos + 1)) }, fun ty => ?_, ?_, ?_, ?_, ?_, ?_⟩
  · simp only [Instr.next, getObj, setObj, Sem.run_bind, Sem.run, h2, Result.andThen, hp, if_true, decode_ascii form pos hp ha]
    simp [goInt, Sem.run, h2]
  · exact (hne _ (by omega)).trans h0
  · exact (hne _ (by omega)).trans h1
  · show (wr.heap.setIfInBounds _ _)[_]? = _
    rw [Array.getElem?_setIfInBounds, if_pos rfl, if_pos hlt]
  · exact Kd.R_step h3 (fun k hk _ => hne k hk.2.2)
  · refine ⟨h4.os, h4.tape, h4.output, ?_, fun k hk => ?_⟩
    · show w.heap.size ≤ (wr.heap.setIfInBounds _ _).size
      rw [Array.size_setIfInBounds]
      exact h4.size
    · exact (hne k (by omega)).trans (h4.block k hk)
theorem PInv.end_ {P : Program} (h : PInv w form s wr pos at_ v sp) (hp : ¬ pos < form.size) (ty : TypeId) :
    (Instr.next (.pointer (some ⟨w.heap.size + 1 + 1, 0, none⟩)) true ty).run P wr = .ok (.tuple #[.bool false]) wr := by
  simp [Instr.next, getObj, Sem.run, h.2.2.1, hp]
end

end Go.Proofs.YtbaajohjglhpfaaDoor.F
