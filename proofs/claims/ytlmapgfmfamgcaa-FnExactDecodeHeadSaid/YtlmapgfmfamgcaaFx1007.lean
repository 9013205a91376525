-- Written by a program of this session (wip/myprint.py, over the kit's print). Not trusted: Lean checks it.
import Derived.Test.YtlmapgfmfamgcaaFx0
import Derived.Test.YtlmapgfmfamgcaaFx1015
import Derived.Test.YtlmapgfmfamgcaaFx1016
import Derived.Test.YtlmapgfmfamgcaaFx5001
namespace Go.Proofs.Ytlmapgfmfamgcaa.F
open Go Go.Shelf Go.RowKit Go.Proofs.YtlmapgfmfamgcaaW.PrintWords Go.Proofs.YtlmapgfmfamgcaaW.PrintLast Go.Proofs.YtlmapgfmfamgcaaW.PrintMore
attribute [local go_sem] max2_int min2_int max_two min_two max_three min_three max_four min_four   -- for this text's walks alone
set_option linter.unusedVariables false
set_option linter.unusedSimpArgs false

/-! ### impl_DecodeHead: function 7 -/
set_option maxHeartbeats 8000000 in
set_option maxRecDepth 100000 in
theorem impl_DecodeHead.short (A0 : Option Addr) (c0 : Nat) (l0 : List Int) (w : World) (hr0 : Kd.C (Kd.int .u8) w A0 l0.length l0) (hc0 : l0.length ≤ c0) (h : l0.length < 12) :
    Calls Try.prog 7 #[.slice A0 l0.length c0] w fun e w' => e = .returned (.tuple #[.agg #[.int .i64 0, .bool false, .int .i64 0, .bool false, .bool false, .bool false, .bool false, .bool false, .bool false, .bool false, .int .i64 0], .agg #[.int .i64 0, .int .i64 0, .int .i64 0, .int .i64 0], .int .i64 8]) ∧ Below w.heap.size w w' := by
  have hlt : decide ((l0.length : Int) < 12) = true := decide_eq_true (by omega)
  go_enter Try.func7, Try.ntmps7
  go_wp2
  refine bodyPost_ret (v := .tuple #[.agg #[.int .i64 0, .bool false, .int .i64 0, .bool false, .bool false, .bool false, .bool false, .bool false, .bool false, .bool false, .int .i64 0], .agg #[.int .i64 0, .int .i64 0, .int .i64 0, .int .i64 0], .int .i64 8]) (by simp [results, Try.results7, go_sem]) rfl ⟨rfl, below_alloc (below_alloc (Below.refl _ _) _) _⟩
set_option maxHeartbeats 8000000 in
set_option maxRecDepth 100000 in
theorem impl_DecodeHead.long (A0 : Option Addr) (c0 : Nat) (l0 : List Int) (w : World) (hr0 : Kd.C (Kd.int .u8) w A0 l0.length l0) (hc0 : l0.length ≤ c0) (h : 12 ≤ l0.length) (s : ByteArray) (hs : strOfNums (l0.take 12) = s) (f id n0 n1 n2 n3 : Int) (b15 b10 b9 b8 b7 b6 b5 b4 : Bool)
    (hf : impl_u16.f (s.extract 2 12) = some f) (hid : impl_u16.f s = some id) (h0 : impl_u16.f (s.extract 4 12) = some n0) (h1 : impl_u16.f (s.extract 6 12) = some n1) (h2 : impl_u16.f (s.extract 8 12) = some n2) (h3 : impl_u16.f (s.extract 10 12) = some n3)
    (k15 : impl_bit.f f 15 = some b15) (k10 : impl_bit.f f 10 = some b10) (k9 : impl_bit.f f 9 = some b9) (k8 : impl_bit.f f 8 = some b8) (k7 : impl_bit.f f 7 = some b7) (k6 : impl_bit.f f 6 = some b6) (k5 : impl_bit.f f 5 = some b5) (k4 : impl_bit.f f 4 = some b4) :
    Calls Try.prog 7 #[.slice A0 l0.length c0] w fun e w' => e = .returned (.tuple #[.agg #[.int .i64 id, .bool b15, .int .i64 (Go.bits .and .i64 (shr .i64 f 11) 15), .bool b10, .bool b9, .bool b8, .bool b7, .bool b6, .bool b5, .bool b4, .int .i64 (Go.bits .and .i64 f 15)], .agg #[.int .i64 n0, .int .i64 n1, .int .i64 n2, .int .i64 n3], .int .i64 0]) ∧ Below w.heap.size w w' := by
  have hlt : decide ((l0.length : Int) < 12) = false := decide_eq_false (by omega)
  have hsz : s.size = 12 := by rw [← hs]; simp [strOfNums, ByteArray.size]; omega
  have hcv : ∀ W : World, Below w.heap.size w W → Sem.run Try.prog (convert 22 9 (.slice A0 12 c0)) W = .ok (.string s) W := by
    intro W hb
    have hC := Kd.C_take hr0 h
    rw [List.length_take, Nat.min_eq_left h] at hC
    rw [← hs]
    exact Kd.C_string Try.underlying22 Try.underlying5 Try.underlying9 (Kd.C_below hC hb)
  have HC := Aside0.mk hcv
  clear hcv hs hr0
  have hcv := fun o1 o2 => HC.out ((w.alloc o1).alloc o2) (below_alloc (below_alloc (Below.refl _ _) _) _)
  go_enter Try.func7, Try.ntmps7
  go_wp2_with fail
  refine (impl_u16.calls _ _ _ hf).mono ?_
  rintro e w1 ⟨rfl, m, rfl⟩
  go_wp2_with fail
  refine (impl_u16.calls _ _ _ hid).mono ?_
  rintro e w1 ⟨rfl, m, rfl⟩
  go_wp2_with fail
  refine (impl_bit.calls _ _ _ _ k15).mono ?_
  rintro e w1 ⟨rfl, m, rfl⟩
  go_wp2_with fail
  refine (impl_bit.calls _ _ _ _ k10).mono ?_
  rintro e w1 ⟨rfl, m, rfl⟩
  go_wp2_with fail
  refine (impl_bit.calls _ _ _ _ k9).mono ?_
  rintro e w1 ⟨rfl, m, rfl⟩
  go_wp2_with fail
  refine (impl_bit.calls _ _ _ _ k8).mono ?_
  rintro e w1 ⟨rfl, m, rfl⟩
  go_wp2_with fail
  refine (impl_bit.calls _ _ _ _ k7).mono ?_
  rintro e w1 ⟨rfl, m, rfl⟩
  go_wp2_with fail
  refine (impl_bit.calls _ _ _ _ k6).mono ?_
  rintro e w1 ⟨rfl, m, rfl⟩
  go_wp2_with fail
  refine (impl_bit.calls _ _ _ _ k5).mono ?_
  rintro e w1 ⟨rfl, m, rfl⟩
  go_wp2_with fail
  refine (impl_bit.calls _ _ _ _ k4).mono ?_
  rintro e w1 ⟨rfl, m, rfl⟩
  go_wp2_with fail
  have hz : ∀ (W : World) o, (W.alloc o).heap.size = W.heap.size + 1 := fun _ _ => Array.size_push _
  refine start_ (n := 17) (S := fun w' => w'.heap[w.heap.size]? = some (.cells #[.int .i64 0, .bool false, .int .i64 0, .bool false, .bool false, .bool false, .bool false, .bool false, .bool false, .bool false, .int .i64 0] 24 (0, 0)) ∧ w'.heap[w.heap.size + 1]? = some (.cells #[.int .i64 0, .int .i64 0, .int .i64 0, .int .i64 0] 25 (0, 0)) ∧ w'.heap[w.heap.size + 1 + 1]? = some (.cells #[.int .i64 id, .bool b15, .int .i64 (Go.bits .and .i64 (f / 2048) 15), .bool b10, .bool b9, .bool b8, .bool b7, .bool b6, .bool b5, .bool b4, .int .i64 (Go.bits .and .i64 f 15)] 24 (0, 0)) ∧ Below w.heap.size w w' ∧ w'.cell? ⟨w.heap.size + 1 + 1, 0, none⟩ = some (.int .i64 id) ∧ w'.cell? ⟨w.heap.size + 1 + 1, 1, none⟩ = some (.bool b15) ∧ w'.cell? ⟨w.heap.size + 1 + 1, 2, none⟩ = some (.int .i64 (Go.bits .and .i64 (f / 2048) 15)) ∧ w'.cell? ⟨w.heap.size + 1 + 1, 3, none⟩ = some (.bool b10) ∧ w'.cell? ⟨w.heap.size + 1 + 1, 4, none⟩ = some (.bool b9) ∧ w'.cell? ⟨w.heap.size + 1 + 1, 5, none⟩ = some (.bool b8) ∧ w'.cell? ⟨w.heap.size + 1 + 1, 6, none⟩ = some (.bool b7) ∧ w'.cell? ⟨w.heap.size + 1 + 1, 7, none⟩ = some (.bool b6) ∧ w'.cell? ⟨w.heap.size + 1 + 1, 8, none⟩ = some (.bool b5) ∧ w'.cell? ⟨w.heap.size + 1 + 1, 9, none⟩ = some (.bool b4) ∧ w'.cell? ⟨w.heap.size + 1 + 1, 10, none⟩ = some (.int .i64 (Go.bits .and .i64 f 15))) (ds := [14, 15]) #[false, false, false, false, false, false, false, false, false, false, false, false, false, false, false, false, false] (by kernel_rfl) rfl rfl ⟨blk_drew (blk_alloc (blk_drewN (blk_alloc (blk_new w _) _) _) _), (by have e := blk_new (w.alloc (.cells #[.int .i64 0, .bool false, .int .i64 0, .bool false, .bool false, .bool false, .bool false, .bool false, .bool false, .bool false, .int .i64 0] 24 (0, 0))) (.cells #[.int .i64 0, .int .i64 0, .int .i64 0, .int .i64 0] 25 (0, 0)); rw [hz] at e; exact blk_drew (blk_alloc (blk_drewN e _) _)), (by have e := blk_new ((w.alloc (.cells #[.int .i64 0, .bool false, .int .i64 0, .bool false, .bool false, .bool false, .bool false, .bool false, .bool false, .bool false, .int .i64 0] 24 (0, 0))).alloc (.cells #[.int .i64 0, .int .i64 0, .int .i64 0, .int .i64 0] 25 (0, 0))) (.cells #[.int .i64 id, .bool b15, .int .i64 (Go.bits .and .i64 (f / 2048) 15), .bool b10, .bool b9, .bool b8, .bool b7, .bool b6, .bool b5, .bool b4, .int .i64 (Go.bits .and .i64 f 15)] 24 (0, 0)); rw [hz, hz] at e; exact blk_drew e), below_drew1 (below_alloc (pw_below_drewN (below_alloc (below_alloc (Below.refl _ _) _) _) _) _), blk_cell (by have e := blk_new ((w.alloc (.cells #[.int .i64 0, .bool false, .int .i64 0, .bool false, .bool false, .bool false, .bool false, .bool false, .bool false, .bool false, .int .i64 0] 24 (0, 0))).alloc (.cells #[.int .i64 0, .int .i64 0, .int .i64 0, .int .i64 0] 25 (0, 0))) (.cells #[.int .i64 id, .bool b15, .int .i64 (Go.bits .and .i64 (f / 2048) 15), .bool b10, .bool b9, .bool b8, .bool b7, .bool b6, .bool b5, .bool b4, .int .i64 (Go.bits .and .i64 f 15)] 24 (0, 0)); rw [hz, hz] at e; exact blk_drew e) 0, blk_cell (by have e := blk_new ((w.alloc (.cells #[.int .i64 0, .bool false, .int .i64 0, .bool false, .bool false, .bool false, .bool false, .bool false, .bool false, .bool false, .int .i64 0] 24 (0, 0))).alloc (.cells #[.int .i64 0, .int .i64 0, .int .i64 0, .int .i64 0] 25 (0, 0))) (.cells #[.int .i64 id, .bool b15, .int .i64 (Go.bits .and .i64 (f / 2048) 15), .bool b10, .bool b9, .bool b8, .bool b7, .bool b6, .bool b5, .bool b4, .int .i64 (Go.bits .and .i64 f 15)] 24 (0, 0)); rw [hz, hz] at e; exact blk_drew e) 1, blk_cell (by have e := blk_new ((w.alloc (.cells #[.int .i64 0, .bool false, .int .i64 0, .bool false, .bool false, .bool false, .bool false, .bool false, .bool false, .bool false, .int .i64 0] 24 (0, 0))).alloc (.cells #[.int .i64 0, .int .i64 0, .int .i64 0, .int .i64 0] 25 (0, 0))) (.cells #[.int .i64 id, .bool b15, .int .i64 (Go.bits .and .i64 (f / 2048) 15), .bool b10, .bool b9, .bool b8, .bool b7, .bool b6, .bool b5, .bool b4, .int .i64 (Go.bits .and .i64 f 15)] 24 (0, 0)); rw [hz, hz] at e; exact blk_drew e) 2, blk_cell (by have e := blk_new ((w.alloc (.cells #[.int .i64 0, .bool false, .int .i64 0, .bool false, .bool false, .bool false, .bool false, .bool false, .bool false, .bool false, .int .i64 0] 24 (0, 0))).alloc (.cells #[.int .i64 0, .int .i64 0, .int .i64 0, .int .i64 0] 25 (0, 0))) (.cells #[.int .i64 id, .bool b15, .int .i64 (Go.bits .and .i64 (f / 2048) 15), .bool b10, .bool b9, .bool b8, .bool b7, .bool b6, .bool b5, .bool b4, .int .i64 (Go.bits .and .i64 f 15)] 24 (0, 0)); rw [hz, hz] at e; exact blk_drew e) 3, blk_cell (by have e := blk_new ((w.alloc (.cells #[.int .i64 0, .bool false, .int .i64 0, .bool false, .bool false, .bool false, .bool false, .bool false, .bool false, .bool false, .int .i64 0] 24 (0, 0))).alloc (.cells #[.int .i64 0, .int .i64 0, .int .i64 0, .int .i64 0] 25 (0, 0))) (.cells #[.int .i64 id, .bool b15, .int .i64 (Go.bits .and .i64 (f / 2048) 15), .bool b10, .bool b9, .bool b8, .bool b7, .bool b6, .bool b5, .bool b4, .int .i64 (Go.bits .and .i64 f 15)] 24 (0, 0)); rw [hz, hz] at e; exact blk_drew e) 4, blk_cell (by have e := blk_new ((w.alloc (.cells #[.int .i64 0, .bool false, .int .i64 0, .bool false, .bool false, .bool false, .bool false, .bool false, .bool false, .bool false, .int .i64 0] 24 (0, 0))).alloc (.cells #[.int .i64 0, .int .i64 0, .int .i64 0, .int .i64 0] 25 (0, 0))) (.cells #[.int .i64 id, .bool b15, .int .i64 (Go.bits .and .i64 (f / 2048) 15), .bool b10, .bool b9, .bool b8, .bool b7, .bool b6, .bool b5, .bool b4, .int .i64 (Go.bits .and .i64 f 15)] 24 (0, 0)); rw [hz, hz] at e; exact blk_drew e) 5, blk_cell (by have e := blk_new ((w.alloc (.cells #[.int .i64 0, .bool false, .int .i64 0, .bool false, .bool false, .bool false, .bool false, .bool false, .bool false, .bool false, .int .i64 0] 24 (0, 0))).alloc (.cells #[.int .i64 0, .int .i64 0, .int .i64 0, .int .i64 0] 25 (0, 0))) (.cells #[.int .i64 id, .bool b15, .int .i64 (Go.bits .and .i64 (f / 2048) 15), .bool b10, .bool b9, .bool b8, .bool b7, .bool b6, .bool b5, .bool b4, .int .i64 (Go.bits .and .i64 f 15)] 24 (0, 0)); rw [hz, hz] at e; exact blk_drew e) 6, blk_cell (by have e := blk_new ((w.alloc (.cells #[.int .i64 0, .bool false, .int .i64 0, .bool false, .bool false, .bool false, .bool false, .bool false, .bool false, .bool false, .int .i64 0] 24 (0, 0))).alloc (.cells #[.int .i64 0, .int .i64 0, .int .i64 0, .int .i64 0] 25 (0, 0))) (.cells #[.int .i64 id, .bool b15, .int .i64 (Go.bits .and .i64 (f / 2048) 15), .bool b10, .bool b9, .bool b8, .bool b7, .bool b6, .bool b5, .bool b4, .int .i64 (Go.bits .and .i64 f 15)] 24 (0, 0)); rw [hz, hz] at e; exact blk_drew e) 7, blk_cell (by have e := blk_new ((w.alloc (.cells #[.int .i64 0, .bool false, .int .i64 0, .bool false, .bool false, .bool false, .bool false, .bool false, .bool false, .bool false, .int .i64 0] 24 (0, 0))).alloc (.cells #[.int .i64 0, .int .i64 0, .int .i64 0, .int .i64 0] 25 (0, 0))) (.cells #[.int .i64 id, .bool b15, .int .i64 (Go.bits .and .i64 (f / 2048) 15), .bool b10, .bool b9, .bool b8, .bool b7, .bool b6, .bool b5, .bool b4, .int .i64 (Go.bits .and .i64 f 15)] 24 (0, 0)); rw [hz, hz] at e; exact blk_drew e) 8, blk_cell (by have e := blk_new ((w.alloc (.cells #[.int .i64 0, .bool false, .int .i64 0, .bool false, .bool false, .bool false, .bool false, .bool false, .bool false, .bool false, .int .i64 0] 24 (0, 0))).alloc (.cells #[.int .i64 0, .int .i64 0, .int .i64 0, .int .i64 0] 25 (0, 0))) (.cells #[.int .i64 id, .bool b15, .int .i64 (Go.bits .and .i64 (f / 2048) 15), .bool b10, .bool b9, .bool b8, .bool b7, .bool b6, .bool b5, .bool b4, .int .i64 (Go.bits .and .i64 f 15)] 24 (0, 0)); rw [hz, hz] at e; exact blk_drew e) 9, blk_cell (by have e := blk_new ((w.alloc (.cells #[.int .i64 0, .bool false, .int .i64 0, .bool false, .bool false, .bool false, .bool false, .bool false, .bool false, .bool false, .int .i64 0] 24 (0, 0))).alloc (.cells #[.int .i64 0, .int .i64 0, .int .i64 0, .int .i64 0] 25 (0, 0))) (.cells #[.int .i64 id, .bool b15, .int .i64 (Go.bits .and .i64 (f / 2048) 15), .bool b10, .bool b9, .bool b8, .bool b7, .bool b6, .bool b5, .bool b4, .int .i64 (Go.bits .and .i64 f 15)] 24 (0, 0)); rw [hz, hz] at e; exact blk_drew e) 10⟩ (fun hHeld => ?_)
  refine pure_ (i := 1) (N := some 44) (v := ?_) (a' := ?_) #[false, true, false, false, false, false, false, false, false, false, false, false, false, false, false, false, false] rfl rfl (by kernel_rfl) (fun _ _ _ h => h) (Or.inl ⟨by rfl, ?_⟩) ?_ ?_
  rotate_left
  · intro w'
    go_simp
    with_reducible rfl
  rotate_left
  · simp only [Act.put, List.setIfInBounds_toArray, List.set_cons_zero, List.set_cons_succ, i64_w, i32_w]
    rfl
  refine pure_ (i := 2) (N := some 45) (v := ?_) (a' := ?_) #[false, true, true, false, false, false, false, false, false, false, false, false, false, false, false, false, false] rfl rfl (by kernel_rfl) (fun _ _ _ h => h) (Or.inl ⟨by rfl, ?_⟩) ?_ ?_
  rotate_left
  · intro w'
    go_simp
    with_reducible rfl
  rotate_left
  · simp only [Act.put, List.setIfInBounds_toArray, List.set_cons_zero, List.set_cons_succ, i64_w, i32_w]
    rfl
  refine pure_ (i := 4) (N := some 47) (v := ?_) (a' := ?_) #[false, true, true, false, true, false, false, false, false, false, false, false, false, false, false, false, false] rfl rfl (by kernel_rfl) (fun _ _ _ h => h) (Or.inl ⟨by rfl, ?_⟩) ?_ ?_
  rotate_left
  · intro w'
    go_simp
    with_reducible rfl
  rotate_left
  · simp only [Act.put, List.setIfInBounds_toArray, List.set_cons_zero, List.set_cons_succ, i64_w, i32_w]
    rfl
  refine pure_ (i := 5) (N := some 48) (v := ?_) (a' := ?_) #[false, true, true, false, true, true, false, false, false, false, false, false, false, false, false, false, false] rfl rfl (by kernel_rfl) (fun _ _ _ h => h) (Or.inl ⟨by rfl, ?_⟩) ?_ ?_
  rotate_left
  · intro w'
    go_simp
    with_reducible rfl
  rotate_left
  · simp only [Act.put, List.setIfInBounds_toArray, List.set_cons_zero, List.set_cons_succ, i64_w, i32_w]
    rfl
  refine pure_ (i := 7) (N := some 50) (v := ?_) (a' := ?_) #[false, true, true, false, true, true, false, true, false, false, false, false, false, false, false, false, false] rfl rfl (by kernel_rfl) (fun _ _ _ h => h) (Or.inl ⟨by rfl, ?_⟩) ?_ ?_
  rotate_left
  · intro w'
    go_simp
    with_reducible rfl
  rotate_left
  · simp only [Act.put, List.setIfInBounds_toArray, List.set_cons_zero, List.set_cons_succ, i64_w, i32_w]
    rfl
  refine pure_ (i := 8) (N := some 51) (v := ?_) (a' := ?_) #[false, true, true, false, true, true, false, true, true, false, false, false, false, false, false, false, false] rfl rfl (by kernel_rfl) (fun _ _ _ h => h) (Or.inl ⟨by rfl, ?_⟩) ?_ ?_
  rotate_left
  · intro w'
    go_simp
    with_reducible rfl
  rotate_left
  · simp only [Act.put, List.setIfInBounds_toArray, List.set_cons_zero, List.set_cons_succ, i64_w, i32_w]
    rfl
  refine pure_ (i := 10) (N := some 53) (v := ?_) (a' := ?_) #[false, true, true, false, true, true, false, true, true, false, true, false, false, false, false, false, false] rfl rfl (by kernel_rfl) (fun _ _ _ h => h) (Or.inl ⟨by rfl, ?_⟩) ?_ ?_
  rotate_left
  · intro w'
    go_simp
    with_reducible rfl
  rotate_left
  · simp only [Act.put, List.setIfInBounds_toArray, List.set_cons_zero, List.set_cons_succ, i64_w, i32_w]
    rfl
  refine pure_ (i := 11) (N := some 54) (v := ?_) (a' := ?_) #[false, true, true, false, true, true, false, true, true, false, true, true, false, false, false, false, false] rfl rfl (by kernel_rfl) (fun _ _ _ h => h) (Or.inl ⟨by rfl, ?_⟩) ?_ ?_
  rotate_left
  · intro w'
    go_simp
    with_reducible rfl
  rotate_left
  · simp only [Act.put, List.setIfInBounds_toArray, List.set_cons_zero, List.set_cons_succ, i64_w, i32_w]
    rfl
  refine take_ (i := 0) (N := some 43) (v := ?_) (a' := ?_) #[true, true, true, false, true, true, false, true, true, false, true, true, false, false, false, false, false] rfl rfl (by kernel_rfl) (fun _ _ _ h => h) (Or.inl ⟨by rfl, ?_⟩) hHeld ?_ ?_
  rotate_left
  · rintro w' ⟨s0, s1, s2, s3, s4, s5, s6, s7, s8, s9, s10, s11, s12, s13, s14⟩
    go_simp
    with_reducible rfl
  rotate_left
  · simp only [Act.put, List.setIfInBounds_toArray, List.set_cons_zero, List.set_cons_succ, i64_w, i32_w]
    rfl
  refine one_ (i := 3) (N := some 46) #[true, true, true, true, true, true, false, true, true, false, true, true, false, false, false, false, false] rfl rfl (by kernel_rfl) (by decide) (fun K hK => ?_)
  refine goes_ Try.func15 (by kernel_rfl) rfl #[.string (s.extract 4 12)] (by rfl) rfl rfl (by simp only [List.map_toArray, List.map_cons, List.map_nil]; rfl) ?_
  with_reducible refine (impl_u16.calls _ _ _ h0).mono ?_
  rintro e w3 ⟨rfl, hd⟩
  refine ⟨_, rfl, ?_⟩
  refine hK.out _ _ ⟨blk_below hHeld.1 hd.below, blk_below hHeld.2.1 hd.below, blk_below hHeld.2.2.1 hd.below, below_step hHeld.2.2.2.1 hd.below, blk_cell (blk_below hHeld.2.2.1 hd.below) 0, blk_cell (blk_below hHeld.2.2.1 hd.below) 1, blk_cell (blk_below hHeld.2.2.1 hd.below) 2, blk_cell (blk_below hHeld.2.2.1 hd.below) 3, blk_cell (blk_below hHeld.2.2.1 hd.below) 4, blk_cell (blk_below hHeld.2.2.1 hd.below) 5, blk_cell (blk_below hHeld.2.2.1 hd.below) 6, blk_cell (blk_below hHeld.2.2.1 hd.below) 7, blk_cell (blk_below hHeld.2.2.1 hd.below) 8, blk_cell (blk_below hHeld.2.2.1 hd.below) 9, blk_cell (blk_below hHeld.2.2.1 hd.below) 10⟩ (fun hHeld => ?_)
  clear hK K
  refine norm_ (a' := ?_) ?_ ?_
  rotate_left
  · show Act.put _ (some 46) _ = _
    simp only [Act.put, List.setIfInBounds_toArray, List.set_cons_zero, List.set_cons_succ, i64_w, i32_w]
    rfl
  refine one_ (i := 6) (N := some 49) #[true, true, true, true, true, true, true, true, true, false, true, true, false, false, false, false, false] rfl rfl (by kernel_rfl) (by decide) (fun K hK => ?_)
  refine goes_ Try.func15 (by kernel_rfl) rfl #[.string (s.extract 6 12)] (by rfl) rfl rfl (by simp only [List.map_toArray, List.map_cons, List.map_nil]; rfl) ?_
  with_reducible refine (impl_u16.calls _ _ _ h1).mono ?_
  rintro e w3 ⟨rfl, hd⟩
  refine ⟨_, rfl, ?_⟩
  refine hK.out _ _ ⟨blk_below hHeld.1 hd.below, blk_below hHeld.2.1 hd.below, blk_below hHeld.2.2.1 hd.below, below_step hHeld.2.2.2.1 hd.below, blk_cell (blk_below hHeld.2.2.1 hd.below) 0, blk_cell (blk_below hHeld.2.2.1 hd.below) 1, blk_cell (blk_below hHeld.2.2.1 hd.below) 2, blk_cell (blk_below hHeld.2.2.1 hd.below) 3, blk_cell (blk_below hHeld.2.2.1 hd.below) 4, blk_cell (blk_below hHeld.2.2.1 hd.below) 5, blk_cell (blk_below hHeld.2.2.1 hd.below) 6, blk_cell (blk_below hHeld.2.2.1 hd.below) 7, blk_cell (blk_below hHeld.2.2.1 hd.below) 8, blk_cell (blk_below hHeld.2.2.1 hd.below) 9, blk_cell (blk_below hHeld.2.2.1 hd.below) 10⟩ (fun hHeld => ?_)
  clear hK K
  refine norm_ (a' := ?_) ?_ ?_
  rotate_left
  · show Act.put _ (some 49) _ = _
    simp only [Act.put, List.setIfInBounds_toArray, List.set_cons_zero, List.set_cons_succ, i64_w, i32_w]
    rfl
  refine one_ (i := 9) (N := some 52) #[true, true, true, true, true, true, true, true, true, true, true, true, false, false, false, false, false] rfl rfl (by kernel_rfl) (by decide) (fun K hK => ?_)
  refine goes_ Try.func15 (by kernel_rfl) rfl #[.string (s.extract 8 12)] (by rfl) rfl rfl (by simp only [List.map_toArray, List.map_cons, List.map_nil]; rfl) ?_
  with_reducible refine (impl_u16.calls _ _ _ h2).mono ?_
  rintro e w3 ⟨rfl, hd⟩
  refine ⟨_, rfl, ?_⟩
  refine hK.out _ _ ⟨blk_below hHeld.1 hd.below, blk_below hHeld.2.1 hd.below, blk_below hHeld.2.2.1 hd.below, below_step hHeld.2.2.2.1 hd.below, blk_cell (blk_below hHeld.2.2.1 hd.below) 0, blk_cell (blk_below hHeld.2.2.1 hd.below) 1, blk_cell (blk_below hHeld.2.2.1 hd.below) 2, blk_cell (blk_below hHeld.2.2.1 hd.below) 3, blk_cell (blk_below hHeld.2.2.1 hd.below) 4, blk_cell (blk_below hHeld.2.2.1 hd.below) 5, blk_cell (blk_below hHeld.2.2.1 hd.below) 6, blk_cell (blk_below hHeld.2.2.1 hd.below) 7, blk_cell (blk_below hHeld.2.2.1 hd.below) 8, blk_cell (blk_below hHeld.2.2.1 hd.below) 9, blk_cell (blk_below hHeld.2.2.1 hd.below) 10⟩ (fun hHeld => ?_)
  clear hK K
  refine norm_ (a' := ?_) ?_ ?_
  rotate_left
  · show Act.put _ (some 52) _ = _
    simp only [Act.put, List.setIfInBounds_toArray, List.set_cons_zero, List.set_cons_succ, i64_w, i32_w]
    rfl
  refine one_ (i := 12) (N := some 55) #[true, true, true, true, true, true, true, true, true, true, true, true, true, false, false, false, false] rfl rfl (by kernel_rfl) (by decide) (fun K hK => ?_)
  refine goes_ Try.func15 (by kernel_rfl) rfl #[.string (s.extract 10 12)] (by rfl) rfl rfl (by simp only [List.map_toArray, List.map_cons, List.map_nil]; rfl) ?_
  with_reducible refine (impl_u16.calls _ _ _ h3).mono ?_
  rintro e w3 ⟨rfl, hd⟩
  refine ⟨_, rfl, ?_⟩
  refine hK.out _ _ ⟨blk_below hHeld.1 hd.below, blk_below hHeld.2.1 hd.below, blk_below hHeld.2.2.1 hd.below, below_step hHeld.2.2.2.1 hd.below, blk_cell (blk_below hHeld.2.2.1 hd.below) 0, blk_cell (blk_below hHeld.2.2.1 hd.below) 1, blk_cell (blk_below hHeld.2.2.1 hd.below) 2, blk_cell (blk_below hHeld.2.2.1 hd.below) 3, blk_cell (blk_below hHeld.2.2.1 hd.below) 4, blk_cell (blk_below hHeld.2.2.1 hd.below) 5, blk_cell (blk_below hHeld.2.2.1 hd.below) 6, blk_cell (blk_below hHeld.2.2.1 hd.below) 7, blk_cell (blk_below hHeld.2.2.1 hd.below) 8, blk_cell (blk_below hHeld.2.2.1 hd.below) 9, blk_cell (blk_below hHeld.2.2.1 hd.below) 10⟩ (fun hHeld => ?_)
  clear hK K
  refine norm_ (a' := ?_) ?_ ?_
  rotate_left
  · show Act.put _ (some 55) _ = _
    simp only [Act.put, List.setIfInBounds_toArray, List.set_cons_zero, List.set_cons_succ, i64_w, i32_w]
    rfl
  refine pure_ (i := 13) (N := some 56) (v := ?_) (a' := ?_) #[true, true, true, true, true, true, true, true, true, true, true, true, true, true, false, false, false] rfl rfl (by kernel_rfl) (fun _ _ _ h => h) (Or.inl ⟨by rfl, ?_⟩) ?_ ?_
  rotate_left
  · intro w'
    go_simp
    with_reducible rfl
  rotate_left
  · simp only [Act.put, List.setIfInBounds_toArray, List.set_cons_zero, List.set_cons_succ, i64_w, i32_w]
    rfl
  refine last_ (i := 14) (N := none) #[true, true, true, true, true, true, true, true, true, true, true, true, true, true, true, false, false] rfl rfl (by kernel_rfl) (by decide) (fun K hK => ?_)
  have g0 := hHeld.1
  have g1 := hHeld.2.1
  have gB := hHeld.2.2.2.1
  clear hHeld
  rw [if_pos (by rfl)]
  refine wp_store_row 24 (.tmp 2) (.tmp 43) rfl w.heap.size #[.int .i64 id, .bool b15, .int .i64 (Go.bits .and .i64 (f / 2048) 15), .bool b10, .bool b9, .bool b8, .bool b7, .bool b6, .bool b5, .bool b4, .int .i64 (Go.bits .and .i64 f 15)] rfl rfl _ _ g0 (by kernel_rfl) rfl (by simp [Value.oneCell']) ?_
  have r0 := setRow_heap w3 w.heap.size _ #[.int .i64 id, .bool b15, .int .i64 (Go.bits .and .i64 (f / 2048) 15), .bool b10, .bool b9, .bool b8, .bool b7, .bool b6, .bool b5, .bool b4, .int .i64 (Go.bits .and .i64 f 15)] _ _ g0
  have r1 := (setRow_other w3 w.heap.size (w.heap.size + 1) #[.int .i64 id, .bool b15, .int .i64 (Go.bits .and .i64 (f / 2048) 15), .bool b10, .bool b9, .bool b8, .bool b7, .bool b6, .bool b5, .bool b4, .int .i64 (Go.bits .and .i64 f 15)] (by omega)).trans g1
  have rB := xbelow_setRow gB (Nat.le_refl _) #[.int .i64 id, .bool b15, .int .i64 (Go.bits .and .i64 (f / 2048) 15), .bool b10, .bool b9, .bool b8, .bool b7, .bool b6, .bool b5, .bool b4, .int .i64 (Go.bits .and .i64 f 15)]
  clear g0 g1 gB
  generalize w3.setRow w.heap.size #[.int .i64 id, .bool b15, .int .i64 (Go.bits .and .i64 (f / 2048) 15), .bool b10, .bool b9, .bool b8, .bool b7, .bool b6, .bool b5, .bool b4, .int .i64 (Go.bits .and .i64 f 15)] = w4 at *
  refine hK.out _ _ ?_
  clear hK K
  refine last_ (i := 15) (N := none) #[true, true, true, true, true, true, true, true, true, true, true, true, true, true, true, true, false] rfl rfl (by kernel_rfl) (by decide) (fun K hK => ?_)
  rw [if_pos (by rfl)]
  refine wp_store_row 25 (.tmp 3) (.tmp 56) rfl (w.heap.size + 1) #[.int .i64 n0, .int .i64 n1, .int .i64 n2, .int .i64 n3] rfl rfl _ _ r1 (by kernel_rfl) rfl (by simp [Value.oneCell']) ?_
  have q0 := (setRow_other w4 (w.heap.size + 1) w.heap.size #[.int .i64 n0, .int .i64 n1, .int .i64 n2, .int .i64 n3] (by omega)).trans r0
  have q1 := setRow_heap w4 (w.heap.size + 1) _ #[.int .i64 n0, .int .i64 n1, .int .i64 n2, .int .i64 n3] _ _ r1
  have qB := xbelow_setRow rB (by omega : w.heap.size ≤ w.heap.size + 1) #[.int .i64 n0, .int .i64 n1, .int .i64 n2, .int .i64 n3]
  clear r0 r1 rB
  generalize w4.setRow (w.heap.size + 1) #[.int .i64 n0, .int .i64 n1, .int .i64 n2, .int .i64 n3] = w5 at *
  refine hK.out _ _ ?_
  clear hK K
  refine pure_ (i := 16) (N := some 4) (v := ?_) (a' := ?_) #[true, true, true, true, true, true, true, true, true, true, true, true, true, true, true, true, true] rfl rfl (by kernel_rfl) (fun _ _ _ h => h) (Or.inl ⟨by rfl, ?_⟩) ?_ ?_
  rotate_left
  · intro w'
    go_simp
    with_reducible rfl
  rotate_left
  · simp only [Act.put, List.setIfInBounds_toArray, List.set_cons_zero, List.set_cons_succ, i64_w, i32_w]
    rfl
  refine done_ (by kernel_rfl) ?_

  go_wp2
  have l1 := run_loadVar_row (P := Try.prog) w5 w.heap.size 24 24 _ _ _ q0 Try.underlying24 rfl (by kernel_rfl)
  have l2 := run_loadVar_row (P := Try.prog) w5 (w.heap.size + 1) 25 25 _ _ _ q1 Try.underlying25 rfl (by kernel_rfl)
  clear hcv hz hlt
  refine bodyPost_ret (v := .tuple #[.agg #[.int .i64 id, .bool b15, .int .i64 (Go.bits .and .i64 (f / 2048) 15), .bool b10, .bool b9, .bool b8, .bool b7, .bool b6, .bool b5, .bool b4, .int .i64 (Go.bits .and .i64 f 15)], .agg #[.int .i64 n0, .int .i64 n1, .int .i64 n2, .int .i64 n3], .int .i64 0]) (by simp [results, Try.results7, asAddr, Sem.run_bind, l1, l2]) rfl ⟨rfl, qB⟩
-- the function
def impl_DecodeHead.f (l0 : List Int) : Option (Int × Bool × Int × Bool × Bool × Bool × Bool × Bool × Bool × Bool × Int × Int × Int × Int × Int × Int) := if l0.length < 12 then some (0, false, 0, false, false, false, false, false, false, false, 0, 0, 0, 0, 0, 8) else (impl_u16.f ((strOfNums (l0.take 12)).extract 2 12)).bind fun f => (impl_u16.f (strOfNums (l0.take 12))).bind fun id => (impl_bit.f f 15).bind fun b15 => (impl_bit.f f 10).bind fun b10 => (impl_bit.f f 9).bind fun b9 => (impl_bit.f f 8).bind fun b8 => (impl_bit.f f 7).bind fun b7 => (impl_bit.f f 6).bind fun b6 => (impl_bit.f f 5).bind fun b5 => (impl_bit.f f 4).bind fun b4 => (impl_u16.f ((strOfNums (l0.take 12)).extract 4 12)).bind fun n0 => (impl_u16.f ((strOfNums (l0.take 12)).extract 6 12)).bind fun n1 => (impl_u16.f ((strOfNums (l0.take 12)).extract 8 12)).bind fun n2 => (impl_u16.f ((strOfNums (l0.take 12)).extract 10 12)).bind fun n3 => some (id, b15, Go.bits .and .i64 (shr .i64 f 11) 15, b10, b9, b8, b7, b6, b5, b4, Go.bits .and .i64 f 15, n0, n1, n2, n3, 0)
set_option maxHeartbeats 1000000 in
theorem impl_DecodeHead.calls (A0 : Option Addr) (c0 : Nat) (l0 : List Int) (r0 : Int) (r1 : Bool) (r2 : Int) (r3 : Bool) (r4 : Bool) (r5 : Bool) (r6 : Bool) (r7 : Bool) (r8 : Bool) (r9 : Bool) (r10 : Int) (r11 : Int) (r12 : Int) (r13 : Int) (r14 : Int) (r15 : Int) (w : World) (hr0 : Kd.C (Kd.int .u8) w A0 l0.length l0) (hc0 : l0.length ≤ c0) (h : impl_DecodeHead.f l0 = some (r0, r1, r2, r3, r4, r5, r6, r7, r8, r9, r10, r11, r12, r13, r14, r15)) :
    Calls Try.prog 7 #[.slice A0 l0.length c0] w fun e w' => e = .returned (.tuple #[.agg #[.int .i64 r0, .bool r1, .int .i64 r2, .bool r3, .bool r4, .bool r5, .bool r6, .bool r7, .bool r8, .bool r9, .int .i64 r10], .agg #[.int .i64 r11, .int .i64 r12, .int .i64 r13, .int .i64 r14], .int .i64 r15]) ∧ Below w.heap.size w w' := by
  unfold impl_DecodeHead.f at h
  split at h
  case isTrue hl =>
    cases h
    exact impl_DecodeHead.short A0 c0 l0 w hr0 hc0 hl
  case isFalse hl =>
    obtain ⟨f, e0, h⟩ := Option.bind_eq_some_iff.mp h
    obtain ⟨id, e1, h⟩ := Option.bind_eq_some_iff.mp h
    obtain ⟨b15, e2, h⟩ := Option.bind_eq_some_iff.mp h
    obtain ⟨b10, e3, h⟩ := Option.bind_eq_some_iff.mp h
    obtain ⟨b9, e4, h⟩ := Option.bind_eq_some_iff.mp h
    obtain ⟨b8, e5, h⟩ := Option.bind_eq_some_iff.mp h
    obtain ⟨b7, e6, h⟩ := Option.bind_eq_some_iff.mp h
    obtain ⟨b6, e7, h⟩ := Option.bind_eq_some_iff.mp h
    obtain ⟨b5, e8, h⟩ := Option.bind_eq_some_iff.mp h
    obtain ⟨b4, e9, h⟩ := Option.bind_eq_some_iff.mp h
    obtain ⟨n0, e10, h⟩ := Option.bind_eq_some_iff.mp h
    obtain ⟨n1, e11, h⟩ := Option.bind_eq_some_iff.mp h
    obtain ⟨n2, e12, h⟩ := Option.bind_eq_some_iff.mp h
    obtain ⟨n3, e13, h⟩ := Option.bind_eq_some_iff.mp h
    cases h
    exact impl_DecodeHead.long A0 c0 l0 w hr0 hc0 (by omega) _ rfl _ _ _ _ _ _ _ _ _ _ _ _ _ _ e0 e1 e10 e11 e12 e13 e2 e3 e4 e5 e6 e7 e8 e9

end Go.Proofs.Ytlmapgfmfamgcaa.F
