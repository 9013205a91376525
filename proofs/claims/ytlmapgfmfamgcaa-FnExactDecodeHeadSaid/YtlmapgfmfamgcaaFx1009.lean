-- Written by a program of this session (wip/myprint.py, over the kit's print). Not trusted: Lean checks it.
import Derived.Test.YtlmapgfmfamgcaaFx0
namespace Go.Proofs.Ytlmapgfmfamgcaa.F
open Go Go.Shelf Go.RowKit Go.Proofs.YtlmapgfmfamgcaaW.PrintWords Go.Proofs.YtlmapgfmfamgcaaW.PrintLast Go.Proofs.YtlmapgfmfamgcaaW.PrintMore
attribute [local go_sem] max2_int min2_int max_two min_two max_three min_three max_four min_four   -- for this text's walks alone
set_option linter.unusedVariables false
set_option linter.unusedSimpArgs false

/-! ### laws_eqInt64A4: function 9 -/
def laws_eqInt64A4.f (x0 x1 x2 x3 y0 y1 y2 y3 : Int) : Option Bool := some (decide ([x0, x1, x2, x3] = [y0, y1, y2, y3]))
set_option maxHeartbeats 1000000 in
set_option maxRecDepth 100000 in
theorem laws_eqInt64A4.calls (x0 x1 x2 x3 y0 y1 y2 y3 : Int) (r : Bool) (w : World) (h : laws_eqInt64A4.f x0 x1 x2 x3 y0 y1 y2 y3 = some r) :
    Calls Try.prog 9 #[.agg #[.int .i64 x0, .int .i64 x1, .int .i64 x2, .int .i64 x3], .agg #[.int .i64 y0, .int .i64 y1, .int .i64 y2, .int .i64 y3]] w fun e w' => e = .returned (.bool r) ∧ Below w.heap.size w w' := by
  obtain rfl := Option.some.inj h
  clear h
  go_enter Try.func9, Try.ntmps9
  go_wp2
  go_loopw [5] (fun i wr => ∃ k : Int, (k = 0 ∨ k = 1 ∨ k = 2 ∨ k = 3 ∨ k = 4) ∧ i = .int .i64 k ∧ Aside0 ((1 ≤ k → x0 = y0) ∧ (2 ≤ k → x1 = y1) ∧ (3 ≤ k → x2 = y2) ∧ (4 ≤ k → x3 = y3)) ∧ Aside0 (wr.heap[w.heap.size]? = some (.cells #[.int .i64 x0, .int .i64 x1, .int .i64 x2, .int .i64 x3] 25 (0, 0))) ∧ Aside0 (wr.heap[w.heap.size + 1]? = some (.cells #[.int .i64 y0, .int .i64 y1, .int .i64 y2, .int .i64 y3] 25 (0, 0))) ∧ Aside0 (Below w.heap.size w wr)) (fun i _ => 4 - (intOf i).toNat)
  case atStart =>
    have h1 : ∀ o, (w.alloc o).heap.size = w.heap.size + 1 := fun o => Array.size_push _
    refine ⟨0, .inl rfl, rfl, ⟨by omega⟩, ⟨?_⟩, ⟨?_⟩, ⟨((Below.refl _ _).alloc (Nat.le_refl _) _).alloc (by rw [h1]; omega) _⟩⟩
    · exact blk_alloc (blk_new w _) _
    · rw [← h1]
      exact blk_new _ _
  case round =>
    obtain ⟨k, hk, rfl, HE, HX, HY, HB⟩ := hrel
    have hx := HX.out
    have hy := HY.out
    rcases hk with rfl | rfl | rfl | rfl | rfl
    · have q0 : wr.cell? ⟨w.heap.size, 0, none⟩ = some (.int .i64 x0) := blk_cell HX.out 0
      have q1 : wr.cell? ⟨w.heap.size + 1, 0, none⟩ = some (.int .i64 y0) := blk_cell HY.out 0
      by_cases h0 : x0 = y0
      · have h1 : (x0 != y0) = false := by simpa using h0
        go_wp2
        go_region
        go_wp2
        go_roundw
        case rel => exact ⟨1, by omega, by go_num, ⟨by have := HE.out; omega⟩, HX, HY, ⟨HB.out.drew⟩⟩
        case measure => simp [intOf]
      · have h1 : (x0 != y0) = true := by simpa using h0
        go_wp2
        go_region
        go_wp2
        go_ret
        exact ⟨by simp [h0], HB.out.drew⟩
    · have q0 : wr.cell? ⟨w.heap.size, 1, none⟩ = some (.int .i64 x1) := blk_cell HX.out 1
      have q1 : wr.cell? ⟨w.heap.size + 1, 1, none⟩ = some (.int .i64 y1) := blk_cell HY.out 1
      by_cases h0 : x1 = y1
      · have h1 : (x1 != y1) = false := by simpa using h0
        go_wp2
        go_region
        go_wp2
        go_roundw
        case rel => exact ⟨2, by omega, by go_num, ⟨by have := HE.out; omega⟩, HX, HY, ⟨HB.out.drew⟩⟩
        case measure => simp [intOf]
      · have h1 : (x1 != y1) = true := by simpa using h0
        go_wp2
        go_region
        go_wp2
        go_ret
        exact ⟨by simp [h0], HB.out.drew⟩
    · have q0 : wr.cell? ⟨w.heap.size, 2, none⟩ = some (.int .i64 x2) := blk_cell HX.out 2
      have q1 : wr.cell? ⟨w.heap.size + 1, 2, none⟩ = some (.int .i64 y2) := blk_cell HY.out 2
      by_cases h0 : x2 = y2
      · have h1 : (x2 != y2) = false := by simpa using h0
        go_wp2
        go_region
        go_wp2
        go_roundw
        case rel => exact ⟨3, by omega, by go_num, ⟨by have := HE.out; omega⟩, HX, HY, ⟨HB.out.drew⟩⟩
        case measure => simp [intOf]
      · have h1 : (x2 != y2) = true := by simpa using h0
        go_wp2
        go_region
        go_wp2
        go_ret
        exact ⟨by simp [h0], HB.out.drew⟩
    · have q0 : wr.cell? ⟨w.heap.size, 3, none⟩ = some (.int .i64 x3) := blk_cell HX.out 3
      have q1 : wr.cell? ⟨w.heap.size + 1, 3, none⟩ = some (.int .i64 y3) := blk_cell HY.out 3
      by_cases h0 : x3 = y3
      · have h1 : (x3 != y3) = false := by simpa using h0
        go_wp2
        go_region
        go_wp2
        go_roundw
        case rel => exact ⟨4, by omega, by go_num, ⟨by have := HE.out; omega⟩, HX, HY, ⟨HB.out.drew⟩⟩
        case measure => simp [intOf]
      · have h1 : (x3 != y3) = true := by simpa using h0
        go_wp2
        go_region
        go_wp2
        go_ret
        exact ⟨by simp [h0], HB.out.drew⟩
    · go_wp2
      go_ret
      exact ⟨by have := HE.out; simp [this.1 (by omega), this.2.1 (by omega), this.2.2.1 (by omega), this.2.2.2 (by omega)], HB.out⟩

end Go.Proofs.Ytlmapgfmfamgcaa.F
