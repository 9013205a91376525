-- Written by a program of this session (wip/myprint.py, over the kit's print). Not trusted: Lean checks it.
import Derived.Test.YtlmapgfmfamgcaaFx0
import Derived.Test.YtlmapgfmfamgcaaFx1013
import Derived.Test.YtlmapgfmfamgcaaFx1014
import Derived.Test.YtlmapgfmfamgcaaFx5001
namespace Go.Proofs.Ytlmapgfmfamgcaa.F
open Go Go.Shelf Go.RowKit Go.Proofs.YtlmapgfmfamgcaaW.PrintWords Go.Proofs.YtlmapgfmfamgcaaW.PrintLast Go.Proofs.YtlmapgfmfamgcaaW.PrintMore
attribute [local go_sem] max2_int min2_int max_two min_two max_three min_three max_four min_four   -- for this text's walks alone
set_option linter.unusedVariables false
set_option linter.unusedSimpArgs false

/-! ### spec_DecodeHead: function 5 -/
set_option maxHeartbeats 8000000 in
set_option maxRecDepth 100000 in
theorem spec_DecodeHead.short (A0 : Option Addr) (c0 : Nat) (l0 : List Int) (w : World) (hr0 : Kd.C (Kd.int .u8) w A0 l0.length l0) (hc0 : l0.length ≤ c0) (h : l0.length < 12) :
    Calls Try.prog 5 #[.slice A0 l0.length c0] w fun e w' => e = .returned (.tuple #[.agg #[.int .i64 0, .bool false, .int .i64 0, .bool false, .bool false, .bool false, .bool false, .bool false, .bool false, .bool false, .int .i64 0], .agg #[.int .i64 0, .int .i64 0, .int .i64 0, .int .i64 0], .int .i64 8]) ∧ Below w.heap.size w w' := by
  have hlt : decide ((l0.length : Int) < 12) = true := decide_eq_true (by omega)
  have hz : ∀ (W : World) o, (W.alloc o).heap.size = W.heap.size + 1 := fun _ _ => Array.size_push _
  go_enter Try.func5, Try.ntmps5
  go_wp2
  have g0 : (((w.alloc (.cells #[.int .i64 0, .bool false, .int .i64 0, .bool false, .bool false, .bool false, .bool false, .bool false, .bool false, .bool false, .int .i64 0] 24)).alloc (.cells #[.int .i64 0, .int .i64 0, .int .i64 0, .int .i64 0] 25)).alloc (.cells #[.int .i64 0, .int .i64 0, .int .i64 0, .int .i64 0] 25)).heap[w.heap.size]? = some (.cells #[.int .i64 0, .bool false, .int .i64 0, .bool false, .bool false, .bool false, .bool false, .bool false, .bool false, .bool false, .int .i64 0] 24 (0, 0)) := blk_alloc (blk_alloc (blk_new w _) _) _
  have g1 : (((w.alloc (.cells #[.int .i64 0, .bool false, .int .i64 0, .bool false, .bool false, .bool false, .bool false, .bool false, .bool false, .bool false, .int .i64 0] 24)).alloc (.cells #[.int .i64 0, .int .i64 0, .int .i64 0, .int .i64 0] 25)).alloc (.cells #[.int .i64 0, .int .i64 0, .int .i64 0, .int .i64 0] 25)).heap[w.heap.size + 1]? = some (.cells #[.int .i64 0, .int .i64 0, .int .i64 0, .int .i64 0] 25 (0, 0)) := by
    have e := blk_new (w.alloc (.cells #[.int .i64 0, .bool false, .int .i64 0, .bool false, .bool false, .bool false, .bool false, .bool false, .bool false, .bool false, .int .i64 0] 24)) (.cells #[.int .i64 0, .int .i64 0, .int .i64 0, .int .i64 0] 25)
    rw [hz] at e
    exact blk_alloc e _
  have g2 : (((w.alloc (.cells #[.int .i64 0, .bool false, .int .i64 0, .bool false, .bool false, .bool false, .bool false, .bool false, .bool false, .bool false, .int .i64 0] 24)).alloc (.cells #[.int .i64 0, .int .i64 0, .int .i64 0, .int .i64 0] 25)).alloc (.cells #[.int .i64 0, .int .i64 0, .int .i64 0, .int .i64 0] 25)).heap[w.heap.size + 1 + 1]? = some (.cells #[.int .i64 0, .int .i64 0, .int .i64 0, .int .i64 0] 25 (0, 0)) := by
    have e := blk_new ((w.alloc (.cells #[.int .i64 0, .bool false, .int .i64 0, .bool false, .bool false, .bool false, .bool false, .bool false, .bool false, .bool false, .int .i64 0] 24)).alloc (.cells #[.int .i64 0, .int .i64 0, .int .i64 0, .int .i64 0] 25)) (.cells #[.int .i64 0, .int .i64 0, .int .i64 0, .int .i64 0] 25)
    rw [hz, hz] at e
    exact e
  have gB : Below w.heap.size w (((w.alloc (.cells #[.int .i64 0, .bool false, .int .i64 0, .bool false, .bool false, .bool false, .bool false, .bool false, .bool false, .bool false, .int .i64 0] 24)).alloc (.cells #[.int .i64 0, .int .i64 0, .int .i64 0, .int .i64 0] 25)).alloc (.cells #[.int .i64 0, .int .i64 0, .int .i64 0, .int .i64 0] 25)) := below_alloc (below_alloc (below_alloc (Below.refl _ _) _) _) _
  generalize (((w.alloc (.cells #[.int .i64 0, .bool false, .int .i64 0, .bool false, .bool false, .bool false, .bool false, .bool false, .bool false, .bool false, .int .i64 0] 24)).alloc (.cells #[.int .i64 0, .int .i64 0, .int .i64 0, .int .i64 0] 25)).alloc (.cells #[.int .i64 0, .int .i64 0, .int .i64 0, .int .i64 0] 25)) = wr at *
  refine start_ (n := 5) (S := fun w' => w'.heap[w.heap.size + 1]? = some (.cells #[.int .i64 0, .int .i64 0, .int .i64 0, .int .i64 0] 25 (0, 0)) ∧ w'.heap[w.heap.size + 1 + 1]? = some (.cells #[.int .i64 0, .int .i64 0, .int .i64 0, .int .i64 0] 25 (0, 0)) ∧ Below w.heap.size w w' ∧ w'.cell? ⟨w.heap.size + 1 + 1, 0, none⟩ = some (.int .i64 0) ∧ w'.cell? ⟨w.heap.size + 1 + 1, 1, none⟩ = some (.int .i64 0) ∧ w'.cell? ⟨w.heap.size + 1 + 1, 2, none⟩ = some (.int .i64 0) ∧ w'.cell? ⟨w.heap.size + 1 + 1, 3, none⟩ = some (.int .i64 0)) (ds := [3]) #[false, false, false, false, false] (by kernel_rfl) rfl rfl ⟨blk_drew g1, blk_drew g2, gB.drew, blk_cell (blk_drew g2) 0, blk_cell (blk_drew g2) 1, blk_cell (blk_drew g2) 2, blk_cell (blk_drew g2) 3⟩ (fun hHeld => ?_)
  refine pure_ (i := 0) (N := some 14) (v := ?_) (a' := ?_) #[true, false, false, false, false] rfl rfl (by kernel_rfl) (fun _ _ _ h => h) (Or.inl ⟨by rfl, ?_⟩) ?_ ?_
  rotate_left
  · intro w'
    go_simp
    with_reducible rfl
  rotate_left
  · simp only [Act.put, List.setIfInBounds_toArray, List.set_cons_zero, List.set_cons_succ, i64_w, i32_w]
    rfl
  refine take_ (i := 1) (N := some 15) (v := ?_) (a' := ?_) #[true, true, false, false, false] rfl rfl (by kernel_rfl) (fun _ _ _ h => h) (Or.inl ⟨by rfl, ?_⟩) hHeld ?_ ?_
  rotate_left
  · rintro w' ⟨s0, s1, s2, s3, s4, s5, s6⟩
    go_simp
    with_reducible rfl
  rotate_left
  · simp only [Act.put, List.setIfInBounds_toArray, List.set_cons_zero, List.set_cons_succ, i64_w, i32_w]
    rfl
  refine one_ (i := 2) (N := none) #[true, true, true, false, false] rfl rfl (by kernel_rfl) (by decide) (fun K hK => ?_)
  have t0 := blk_drew g0
  have t1 := hHeld.1
  have t2 := hHeld.2.1
  have tB := hHeld.2.2.1
  clear hHeld
  rw [if_pos (by rfl)]
  refine wp_store_row 24 (.tmp 2) (.tmp 14) rfl w.heap.size #[.int .i64 0, .bool false, .int .i64 0, .bool false, .bool false, .bool false, .bool false, .bool false, .bool false, .bool false, .int .i64 0] rfl rfl _ _ t0 (by kernel_rfl) rfl (by simp [Value.oneCell']) ?_
  have s0 := setRow_heap _ w.heap.size _ #[.int .i64 0, .bool false, .int .i64 0, .bool false, .bool false, .bool false, .bool false, .bool false, .bool false, .bool false, .int .i64 0] _ _ t0
  have s1 := (setRow_other _ w.heap.size (w.heap.size + 1) #[.int .i64 0, .bool false, .int .i64 0, .bool false, .bool false, .bool false, .bool false, .bool false, .bool false, .bool false, .int .i64 0] (by omega)).trans t1
  have s2 := (setRow_other _ w.heap.size (w.heap.size + 1 + 1) #[.int .i64 0, .bool false, .int .i64 0, .bool false, .bool false, .bool false, .bool false, .bool false, .bool false, .bool false, .int .i64 0] (by omega)).trans t2
  have s3 := xbelow_setRow tB (Nat.le_refl _) #[.int .i64 0, .bool false, .int .i64 0, .bool false, .bool false, .bool false, .bool false, .bool false, .bool false, .bool false, .int .i64 0]
  clear t0 t1 t2 tB
  generalize wr.drew.setRow w.heap.size #[.int .i64 0, .bool false, .int .i64 0, .bool false, .bool false, .bool false, .bool false, .bool false, .bool false, .bool false, .int .i64 0] = w4 at *
  refine hK.out _ _ ⟨s1, s2, s3, blk_cell s2 0, blk_cell s2 1, blk_cell s2 2, blk_cell s2 3⟩ (fun hHeld => ?_)
  clear hK K
  refine last_ (i := 3) (N := none) #[true, true, true, true, false] rfl rfl (by kernel_rfl) (by decide) (fun K hK => ?_)
  clear hHeld
  rw [if_pos (by rfl)]
  refine wp_store_row 25 (.tmp 3) (.tmp 15) rfl (w.heap.size + 1) #[.int .i64 0, .int .i64 0, .int .i64 0, .int .i64 0] rfl rfl _ _ s1 (by kernel_rfl) rfl (by simp [Value.oneCell']) ?_
  have q0 := (setRow_other w4 (w.heap.size + 1) w.heap.size #[.int .i64 0, .int .i64 0, .int .i64 0, .int .i64 0] (by omega)).trans s0
  have q1 := setRow_heap w4 (w.heap.size + 1) _ #[.int .i64 0, .int .i64 0, .int .i64 0, .int .i64 0] _ _ s1
  have qB := xbelow_setRow s3 (by omega : w.heap.size ≤ w.heap.size + 1) #[.int .i64 0, .int .i64 0, .int .i64 0, .int .i64 0]
  clear s0 s1 s3
  generalize w4.setRow (w.heap.size + 1) #[.int .i64 0, .int .i64 0, .int .i64 0, .int .i64 0] = w5 at *
  refine hK.out _ _ ?_
  clear hK K
  refine pure_ (i := 4) (N := some 4) (v := ?_) (a' := ?_) #[true, true, true, true, true] rfl rfl (by kernel_rfl) (fun _ _ _ h => h) (Or.inl ⟨by rfl, ?_⟩) ?_ ?_
  rotate_left
  · intro w'
    go_simp
    with_reducible rfl
  rotate_left
  · simp only [Act.put, List.setIfInBounds_toArray, List.set_cons_zero, List.set_cons_succ, i64_w, i32_w]
    rfl
  refine done_ (by kernel_rfl) ?_

  go_wp2
  have l1 := run_loadVar_row (P := Try.prog) w5 w.heap.size 24 24 _ _ _ q0 Try.underlying24 rfl (by kernel_rfl)
  have l2 := run_loadVar_row (P := Try.prog) w5 (w.heap.size + 1) 25 25 _ _ _ q1 Try.underlying25 rfl (by kernel_rfl)
  refine bodyPost_ret (v := .tuple #[.agg #[.int .i64 0, .bool false, .int .i64 0, .bool false, .bool false, .bool false, .bool false, .bool false, .bool false, .bool false, .int .i64 0], .agg #[.int .i64 0, .int .i64 0, .int .i64 0, .int .i64 0], .int .i64 8]) (by simp [results, Try.results5, asAddr, Sem.run_bind, l1, l2]) rfl ⟨rfl, qB⟩
set_option maxHeartbeats 8000000 in
set_option maxRecDepth 100000 in
theorem spec_DecodeHead.long (A0 : Option Addr) (c0 : Nat) (l0 : List Int) (w : World) (hr0 : Kd.C (Kd.int .u8) w A0 l0.length l0) (hc0 : l0.length ≤ c0) (h : 12 ≤ l0.length) (s : ByteArray) (hs : strOfNums (l0.take 12) = s) (K : Nat) (f id n0 n1 n2 n3 : Int) (b15 b10 b9 b8 b7 b6 b5 b4 : Bool)
    (hf : spec_l02Num.f K (s.extract 2 4) = some f) (hid : spec_l02Num.f K (s.extract 0 2) = some id) (h0 : spec_l02Num.f K (s.extract 4 6) = some n0) (h1 : spec_l02Num.f K (s.extract 6 8) = some n1) (h2 : spec_l02Num.f K (s.extract 8 10) = some n2) (h3 : spec_l02Num.f K (s.extract 10 12) = some n3)
    (k15 : spec_l04Bit.f f 15 = some b15) (k10 : spec_l04Bit.f f 10 = some b10) (k9 : spec_l04Bit.f f 9 = some b9) (k8 : spec_l04Bit.f f 8 = some b8) (k7 : spec_l04Bit.f f 7 = some b7) (k6 : spec_l04Bit.f f 6 = some b6) (k5 : spec_l04Bit.f f 5 = some b5) (k4 : spec_l04Bit.f f 4 = some b4) :
    Calls Try.prog 5 #[.slice A0 l0.length c0] w fun e w' => e = .returned (.tuple #[.agg #[.int .i64 id, .bool b15, .int .i64 (Go.bits .and .i64 (f / 2048) 15), .bool b10, .bool b9, .bool b8, .bool b7, .bool b6, .bool b5, .bool b4, .int .i64 (Go.bits .and .i64 f 15)], .agg #[.int .i64 n0, .int .i64 n1, .int .i64 n2, .int .i64 n3], .int .i64 0]) ∧ Below w.heap.size w w' := by
  have hlt : decide ((l0.length : Int) < 12) = false := decide_eq_false (by omega)
  have hsz : s.size = 12 := by rw [← hs]; simp [strOfNums, ByteArray.size]; omega
  have hcv : ∀ W : World, Below w.heap.size w W → Sem.run Try.prog (convert 22 9 (.slice A0 12 c0)) W = .ok (.string s) W := by
    intro W hb
    have hC := Kd.C_take hr0 h
    rw [List.length_take, Nat.min_eq_left h] at hC
    rw [← hs]
    exact Kd.C_string Try.underlying22 Try.underlying5 Try.underlying9 (Kd.C_below hC hb)
  have HC := Aside0.mk hcv
  clear hcv hs hr0
  have hcv := fun o1 o2 o3 => HC.out (((w.alloc o1).alloc o2).alloc o3) (below_alloc (below_alloc (below_alloc (Below.refl _ _) _) _) _)
  clear HC
  go_enter Try.func5, Try.ntmps5
  go_wp2_with fail
  refine (spec_l02Num.calls K _ _ _ hf).mono ?_
  rintro e w1 ⟨rfl, m1, rfl⟩
  go_wp2_with fail
  refine (spec_l02Num.calls K _ _ _ hid).mono ?_
  rintro e w1 ⟨rfl, m2, rfl⟩
  go_wp2_with fail
  refine (spec_l04Bit.calls _ _ _ _ k15).mono ?_
  rintro e w1 ⟨rfl, p15, rfl⟩
  go_wp2_with fail
  refine (spec_l04Bit.calls _ _ _ _ k10).mono ?_
  rintro e w1 ⟨rfl, p10, rfl⟩
  go_wp2_with fail
  refine (spec_l04Bit.calls _ _ _ _ k9).mono ?_
  rintro e w1 ⟨rfl, p9, rfl⟩
  go_wp2_with fail
  refine (spec_l04Bit.calls _ _ _ _ k8).mono ?_
  rintro e w1 ⟨rfl, p8, rfl⟩
  go_wp2_with fail
  refine (spec_l04Bit.calls _ _ _ _ k7).mono ?_
  rintro e w1 ⟨rfl, p7, rfl⟩
  go_wp2_with fail
  refine (spec_l04Bit.calls _ _ _ _ k6).mono ?_
  rintro e w1 ⟨rfl, p6, rfl⟩
  go_wp2_with fail
  refine (spec_l04Bit.calls _ _ _ _ k5).mono ?_
  rintro e w1 ⟨rfl, p5, rfl⟩
  go_wp2_with fail
  refine (spec_l04Bit.calls _ _ _ _ k4).mono ?_
  rintro e w1 ⟨rfl, p4, rfl⟩
  go_wp2_with fail
  clear hcv hlt hf hid k15 k10 k9 k8 k7 k6 k5 k4
  have hz : ∀ (W : World) o, (W.alloc o).heap.size = W.heap.size + 1 := fun _ _ => Array.size_push _
  have hzd : ∀ (W : World) n, (W.drewN n).heap.size = W.heap.size := fun _ _ => rfl
  go_loopw [9] (fun i wr => ∃ k : Int, (k = 0 ∨ k = 1 ∨ k = 2 ∨ k = 3 ∨ k = 4) ∧ i = .int .i64 k ∧ Aside0 (wr.heap[w.heap.size]? = some (.cells #[.int .i64 0, .bool false, .int .i64 0, .bool false, .bool false, .bool false, .bool false, .bool false, .bool false, .bool false, .int .i64 0] 24 (0, 0))) ∧ Aside0 (wr.heap[w.heap.size + 1]? = some (.cells #[.int .i64 0, .int .i64 0, .int .i64 0, .int .i64 0] 25 (0, 0))) ∧ Aside0 (wr.heap[w.heap.size + 1 + 1]? = some (.cells #[.int .i64 (if 1 ≤ k then n0 else 0), .int .i64 (if 2 ≤ k then n1 else 0), .int .i64 (if 3 ≤ k then n2 else 0), .int .i64 (if 4 ≤ k then n3 else 0)] 25 (0, 0))) ∧ Aside0 (wr.heap[w.heap.size + 1 + 1 + 1]? = some (.cells #[.int .i64 id, .bool b15, .int .i64 (Go.bits .and .i64 (f / 2048) 15), .bool b10, .bool b9, .bool b8, .bool b7, .bool b6, .bool b5, .bool b4, .int .i64 (Go.bits .and .i64 f 15)] 24 (0, 0))) ∧ Aside0 (Below w.heap.size w wr)) (fun i _ => 4 - (intOf i).toNat)
  case atStart =>
    refine ⟨0, .inl rfl, rfl, ⟨?_⟩, ⟨?_⟩, ⟨?_⟩, ⟨?_⟩, ⟨?_⟩⟩
    · exact blk_alloc (blk_drewN (blk_alloc (blk_alloc (blk_new w _) _) _) _) _
    · have e := blk_new (w.alloc (.cells #[.int .i64 0, .bool false, .int .i64 0, .bool false, .bool false, .bool false, .bool false, .bool false, .bool false, .bool false, .int .i64 0] 24)) (.cells #[.int .i64 0, .int .i64 0, .int .i64 0, .int .i64 0] 25)
      rw [hz] at e
      exact blk_alloc (blk_drewN (blk_alloc e _) _) _
    · have e := blk_new ((w.alloc (.cells #[.int .i64 0, .bool false, .int .i64 0, .bool false, .bool false, .bool false, .bool false, .bool false, .bool false, .bool false, .int .i64 0] 24)).alloc (.cells #[.int .i64 0, .int .i64 0, .int .i64 0, .int .i64 0] 25)) (.cells #[.int .i64 0, .int .i64 0, .int .i64 0, .int .i64 0] 25)
      rw [hz, hz] at e
      exact blk_alloc (blk_drewN e _) _
    · have e := blk_new (((w.alloc (.cells #[.int .i64 0, .bool false, .int .i64 0, .bool false, .bool false, .bool false, .bool false, .bool false, .bool false, .bool false, .int .i64 0] 24)).alloc (.cells #[.int .i64 0, .int .i64 0, .int .i64 0, .int .i64 0] 25)).alloc (.cells #[.int .i64 0, .int .i64 0, .int .i64 0, .int .i64 0] 25)) (.cells #[.int .i64 id, .bool b15, .int .i64 (Go.bits .and .i64 (f / 2048) 15), .bool b10, .bool b9, .bool b8, .bool b7, .bool b6, .bool b5, .bool b4, .int .i64 (Go.bits .and .i64 f 15)] 24)
      rw [hz, hz, hz] at e
      exact e
    · exact below_alloc (pw_below_drewN (below_alloc (below_alloc (below_alloc (Below.refl _ _) _) _) _) _) _
  case round =>
    obtain ⟨k, hk, rfl, HH, HA, HX, HG, HB⟩ := hrel
    rcases hk with rfl | rfl | rfl | rfl | rfl
    · have hx : wr.heap[w.heap.size + 1 + 1]? = some (.cells #[.int .i64 0, .int .i64 0, .int .i64 0, .int .i64 0] 25 (0, 0)) := HX.out
      have q0 := blk_cell hx 0
      have q1 := blk_frozen hx 0
      go_wp2_with fail
      refine (spec_l02Num.calls K _ _ _ h0).mono ?_
      rintro e w1 ⟨rfl, m, rfl⟩
      go_wp2
      go_roundw
      case rel => exact ⟨1, by omega, by go_num, ⟨blk_far (blk_drewN HH.out _) (by show w.heap.size ≠ w.heap.size + 1 + 1; omega) _⟩, ⟨blk_far (blk_drewN HA.out _) (by show w.heap.size + 1 ≠ w.heap.size + 1 + 1; omega) _⟩, ⟨blk_put (blk_drewN hx _) 0 _ rfl⟩, ⟨blk_far (blk_drewN HG.out _) (by show w.heap.size + 1 + 1 + 1 ≠ w.heap.size + 1 + 1; omega) _⟩, ⟨(pw_below_drewN HB.out _).setCell (by show w.heap.size ≤ w.heap.size + 1 + 1; omega) _⟩⟩
      case measure => simp [intOf]
    · have hx : wr.heap[w.heap.size + 1 + 1]? = some (.cells #[.int .i64 n0, .int .i64 0, .int .i64 0, .int .i64 0] 25 (0, 0)) := HX.out
      have q0 := blk_cell hx 1
      have q1 := blk_frozen hx 1
      go_wp2_with fail
      refine (spec_l02Num.calls K _ _ _ h1).mono ?_
      rintro e w1 ⟨rfl, m, rfl⟩
      go_wp2
      go_roundw
      case rel => exact ⟨2, by omega, by go_num, ⟨blk_far (blk_drewN HH.out _) (by show w.heap.size ≠ w.heap.size + 1 + 1; omega) _⟩, ⟨blk_far (blk_drewN HA.out _) (by show w.heap.size + 1 ≠ w.heap.size + 1 + 1; omega) _⟩, ⟨blk_put (blk_drewN hx _) 1 _ rfl⟩, ⟨blk_far (blk_drewN HG.out _) (by show w.heap.size + 1 + 1 + 1 ≠ w.heap.size + 1 + 1; omega) _⟩, ⟨(pw_below_drewN HB.out _).setCell (by show w.heap.size ≤ w.heap.size + 1 + 1; omega) _⟩⟩
      case measure => simp [intOf]
    · have hx : wr.heap[w.heap.size + 1 + 1]? = some (.cells #[.int .i64 n0, .int .i64 n1, .int .i64 0, .int .i64 0] 25 (0, 0)) := HX.out
      have q0 := blk_cell hx 2
      have q1 := blk_frozen hx 2
      go_wp2_with fail
      refine (spec_l02Num.calls K _ _ _ h2).mono ?_
      rintro e w1 ⟨rfl, m, rfl⟩
      go_wp2
      go_roundw
      case rel => exact ⟨3, by omega, by go_num, ⟨blk_far (blk_drewN HH.out _) (by show w.heap.size ≠ w.heap.size + 1 + 1; omega) _⟩, ⟨blk_far (blk_drewN HA.out _) (by show w.heap.size + 1 ≠ w.heap.size + 1 + 1; omega) _⟩, ⟨blk_put (blk_drewN hx _) 2 _ rfl⟩, ⟨blk_far (blk_drewN HG.out _) (by show w.heap.size + 1 + 1 + 1 ≠ w.heap.size + 1 + 1; omega) _⟩, ⟨(pw_below_drewN HB.out _).setCell (by show w.heap.size ≤ w.heap.size + 1 + 1; omega) _⟩⟩
      case measure => simp [intOf]
    · have hx : wr.heap[w.heap.size + 1 + 1]? = some (.cells #[.int .i64 n0, .int .i64 n1, .int .i64 n2, .int .i64 0] 25 (0, 0)) := HX.out
      have q0 := blk_cell hx 3
      have q1 := blk_frozen hx 3
      go_wp2_with fail
      refine (spec_l02Num.calls K _ _ _ h3).mono ?_
      rintro e w1 ⟨rfl, m, rfl⟩
      go_wp2
      go_roundw
      case rel => exact ⟨4, by omega, by go_num, ⟨blk_far (blk_drewN HH.out _) (by show w.heap.size ≠ w.heap.size + 1 + 1; omega) _⟩, ⟨blk_far (blk_drewN HA.out _) (by show w.heap.size + 1 ≠ w.heap.size + 1 + 1; omega) _⟩, ⟨blk_put (blk_drewN hx _) 3 _ rfl⟩, ⟨blk_far (blk_drewN HG.out _) (by show w.heap.size + 1 + 1 + 1 ≠ w.heap.size + 1 + 1; omega) _⟩, ⟨(pw_below_drewN HB.out _).setCell (by show w.heap.size ≤ w.heap.size + 1 + 1; omega) _⟩⟩
      case measure => simp [intOf]
    · have g0 := HH.out
      have g1 := HA.out
      have g2 : wr.heap[w.heap.size + 1 + 1]? = some (.cells #[.int .i64 n0, .int .i64 n1, .int .i64 n2, .int .i64 n3] 25 (0, 0)) := HX.out
      have g3 := HG.out
      have gB := HB.out
      clear HH HA HX HG HB
      go_wp2
      refine start_ (n := 5) (S := fun w' => w'.heap[w.heap.size + 1]? = some (.cells #[.int .i64 0, .int .i64 0, .int .i64 0, .int .i64 0] 25 (0, 0)) ∧ w'.heap[w.heap.size + 1 + 1]? = some (.cells #[.int .i64 n0, .int .i64 n1, .int .i64 n2, .int .i64 n3] 25 (0, 0)) ∧ Below w.heap.size w w' ∧ w'.cell? ⟨w.heap.size + 1 + 1, 0, none⟩ = some (.int .i64 n0) ∧ w'.cell? ⟨w.heap.size + 1 + 1, 1, none⟩ = some (.int .i64 n1) ∧ w'.cell? ⟨w.heap.size + 1 + 1, 2, none⟩ = some (.int .i64 n2) ∧ w'.cell? ⟨w.heap.size + 1 + 1, 3, none⟩ = some (.int .i64 n3) ∧ w'.heap[w.heap.size + 1 + 1 + 1]? = some (.cells #[.int .i64 id, .bool b15, .int .i64 (Go.bits .and .i64 (f / 2048) 15), .bool b10, .bool b9, .bool b8, .bool b7, .bool b6, .bool b5, .bool b4, .int .i64 (Go.bits .and .i64 f 15)] 24 (0, 0)) ∧ w'.cell? ⟨w.heap.size + 1 + 1 + 1, 0, none⟩ = some (.int .i64 id) ∧ w'.cell? ⟨w.heap.size + 1 + 1 + 1, 1, none⟩ = some (.bool b15) ∧ w'.cell? ⟨w.heap.size + 1 + 1 + 1, 2, none⟩ = some (.int .i64 (Go.bits .and .i64 (f / 2048) 15)) ∧ w'.cell? ⟨w.heap.size + 1 + 1 + 1, 3, none⟩ = some (.bool b10) ∧ w'.cell? ⟨w.heap.size + 1 + 1 + 1, 4, none⟩ = some (.bool b9) ∧ w'.cell? ⟨w.heap.size + 1 + 1 + 1, 5, none⟩ = some (.bool b8) ∧ w'.cell? ⟨w.heap.size + 1 + 1 + 1, 6, none⟩ = some (.bool b7) ∧ w'.cell? ⟨w.heap.size + 1 + 1 + 1, 7, none⟩ = some (.bool b6) ∧ w'.cell? ⟨w.heap.size + 1 + 1 + 1, 8, none⟩ = some (.bool b5) ∧ w'.cell? ⟨w.heap.size + 1 + 1 + 1, 9, none⟩ = some (.bool b4) ∧ w'.cell? ⟨w.heap.size + 1 + 1 + 1, 10, none⟩ = some (.int .i64 (Go.bits .and .i64 f 15))) (ds := [3]) #[false, false, false, false, false] (by kernel_rfl) rfl rfl ⟨blk_drew g1, blk_drew g2, gB.drew, blk_cell (blk_drew g2) 0, blk_cell (blk_drew g2) 1, blk_cell (blk_drew g2) 2, blk_cell (blk_drew g2) 3, blk_drew g3, blk_cell (blk_drew g3) 0, blk_cell (blk_drew g3) 1, blk_cell (blk_drew g3) 2, blk_cell (blk_drew g3) 3, blk_cell (blk_drew g3) 4, blk_cell (blk_drew g3) 5, blk_cell (blk_drew g3) 6, blk_cell (blk_drew g3) 7, blk_cell (blk_drew g3) 8, blk_cell (blk_drew g3) 9, blk_cell (blk_drew g3) 10⟩ (fun hHeld => ?_)
      refine take_ (i := 0) (N := some 62) (v := ?_) (a' := ?_) #[true, false, false, false, false] rfl rfl (by kernel_rfl) (fun _ _ _ h => h) (Or.inl ⟨by rfl, ?_⟩) hHeld ?_ ?_
      rotate_left
      · rintro w' ⟨s0, s1, s2, s3, s4, s5, s6, s7, s8, s9, s10, s11, s12, s13, s14, s15, s16, s17, s18⟩
        go_simp
        with_reducible rfl
      rotate_left
      · simp only [Act.put, List.setIfInBounds_toArray, List.set_cons_zero, List.set_cons_succ, i64_w, i32_w]
        rfl
      refine take_ (i := 1) (N := some 63) (v := ?_) (a' := ?_) #[true, true, false, false, false] rfl rfl (by kernel_rfl) (fun _ _ _ h => h) (Or.inl ⟨by rfl, ?_⟩) hHeld ?_ ?_
      rotate_left
      · rintro w' ⟨s0, s1, s2, s3, s4, s5, s6, s7, s8, s9, s10, s11, s12, s13, s14, s15, s16, s17, s18⟩
        go_simp
        with_reducible rfl
      rotate_left
      · simp only [Act.put, List.setIfInBounds_toArray, List.set_cons_zero, List.set_cons_succ, i64_w, i32_w]
        rfl
      refine one_ (i := 2) (N := none) #[true, true, true, false, false] rfl rfl (by kernel_rfl) (by decide) (fun K hK => ?_)
      have t0 := blk_drew g0
      have t1 := hHeld.1
      have t2 := hHeld.2.1
      have tB := hHeld.2.2.1
      have t3 := hHeld.2.2.2.2.2.2.2.1
      clear hHeld
      rw [if_pos (by rfl)]
      refine wp_store_row 24 (.tmp 2) (.tmp 62) rfl w.heap.size #[.int .i64 id, .bool b15, .int .i64 (Go.bits .and .i64 (f / 2048) 15), .bool b10, .bool b9, .bool b8, .bool b7, .bool b6, .bool b5, .bool b4, .int .i64 (Go.bits .and .i64 f 15)] rfl rfl _ _ t0 (by kernel_rfl) rfl (by simp [Value.oneCell']) ?_
      have s0 := setRow_heap _ w.heap.size _ #[.int .i64 id, .bool b15, .int .i64 (Go.bits .and .i64 (f / 2048) 15), .bool b10, .bool b9, .bool b8, .bool b7, .bool b6, .bool b5, .bool b4, .int .i64 (Go.bits .and .i64 f 15)] _ _ t0
      have s1 := (setRow_other _ w.heap.size (w.heap.size + 1) #[.int .i64 id, .bool b15, .int .i64 (Go.bits .and .i64 (f / 2048) 15), .bool b10, .bool b9, .bool b8, .bool b7, .bool b6, .bool b5, .bool b4, .int .i64 (Go.bits .and .i64 f 15)] (by omega)).trans t1
      have s2 := (setRow_other _ w.heap.size (w.heap.size + 1 + 1) #[.int .i64 id, .bool b15, .int .i64 (Go.bits .and .i64 (f / 2048) 15), .bool b10, .bool b9, .bool b8, .bool b7, .bool b6, .bool b5, .bool b4, .int .i64 (Go.bits .and .i64 f 15)] (by omega)).trans t2
      have s4 := (setRow_other _ w.heap.size (w.heap.size + 1 + 1 + 1) #[.int .i64 id, .bool b15, .int .i64 (Go.bits .and .i64 (f / 2048) 15), .bool b10, .bool b9, .bool b8, .bool b7, .bool b6, .bool b5, .bool b4, .int .i64 (Go.bits .and .i64 f 15)] (by omega)).trans t3
      have s3 := xbelow_setRow tB (Nat.le_refl _) #[.int .i64 id, .bool b15, .int .i64 (Go.bits .and .i64 (f / 2048) 15), .bool b10, .bool b9, .bool b8, .bool b7, .bool b6, .bool b5, .bool b4, .int .i64 (Go.bits .and .i64 f 15)]
      clear t0 t1 t2 tB
      generalize wr.drew.setRow w.heap.size #[.int .i64 id, .bool b15, .int .i64 (Go.bits .and .i64 (f / 2048) 15), .bool b10, .bool b9, .bool b8, .bool b7, .bool b6, .bool b5, .bool b4, .int .i64 (Go.bits .and .i64 f 15)] = w4 at *
      refine hK.out _ _ ⟨s1, s2, s3, blk_cell s2 0, blk_cell s2 1, blk_cell s2 2, blk_cell s2 3, s4, blk_cell s4 0, blk_cell s4 1, blk_cell s4 2, blk_cell s4 3, blk_cell s4 4, blk_cell s4 5, blk_cell s4 6, blk_cell s4 7, blk_cell s4 8, blk_cell s4 9, blk_cell s4 10⟩ (fun hHeld => ?_)
      clear hK K
      refine last_ (i := 3) (N := none) #[true, true, true, true, false] rfl rfl (by kernel_rfl) (by decide) (fun K hK => ?_)
      clear hHeld
      rw [if_pos (by rfl)]
      refine wp_store_row 25 (.tmp 3) (.tmp 63) rfl (w.heap.size + 1) #[.int .i64 n0, .int .i64 n1, .int .i64 n2, .int .i64 n3] rfl rfl _ _ s1 (by kernel_rfl) rfl (by simp [Value.oneCell']) ?_
      have q0 := (setRow_other w4 (w.heap.size + 1) w.heap.size #[.int .i64 n0, .int .i64 n1, .int .i64 n2, .int .i64 n3] (by omega)).trans s0
      have q1 := setRow_heap w4 (w.heap.size + 1) _ #[.int .i64 n0, .int .i64 n1, .int .i64 n2, .int .i64 n3] _ _ s1
      have qB := xbelow_setRow s3 (by omega : w.heap.size ≤ w.heap.size + 1) #[.int .i64 n0, .int .i64 n1, .int .i64 n2, .int .i64 n3]
      clear s0 s1 s3
      generalize w4.setRow (w.heap.size + 1) #[.int .i64 n0, .int .i64 n1, .int .i64 n2, .int .i64 n3] = w5 at *
      refine hK.out _ _ ?_
      clear hK K
      refine pure_ (i := 4) (N := some 4) (v := ?_) (a' := ?_) #[true, true, true, true, true] rfl rfl (by kernel_rfl) (fun _ _ _ h => h) (Or.inl ⟨by rfl, ?_⟩) ?_ ?_
      rotate_left
      · intro w'
        go_simp
        with_reducible rfl
      rotate_left
      · simp only [Act.put, List.setIfInBounds_toArray, List.set_cons_zero, List.set_cons_succ, i64_w, i32_w]
        rfl
      refine done_ (by kernel_rfl) ?_

      go_wp2
      have l1 := run_loadVar_row (P := Try.prog) w5 w.heap.size 24 24 _ _ _ q0 Try.underlying24 rfl (by kernel_rfl)
      have l2 := run_loadVar_row (P := Try.prog) w5 (w.heap.size + 1) 25 25 _ _ _ q1 Try.underlying25 rfl (by kernel_rfl)
      refine bodyPost_ret (v := .tuple #[.agg #[.int .i64 id, .bool b15, .int .i64 (Go.bits .and .i64 (f / 2048) 15), .bool b10, .bool b9, .bool b8, .bool b7, .bool b6, .bool b5, .bool b4, .int .i64 (Go.bits .and .i64 f 15)], .agg #[.int .i64 n0, .int .i64 n1, .int .i64 n2, .int .i64 n3], .int .i64 0]) (by simp [results, Try.results5, asAddr, Sem.run_bind, l1, l2]) rfl ⟨rfl, qB⟩
-- the function
def spec_DecodeHead.f (k : Nat) (l0 : List Int) : Option (Int × Bool × Int × Bool × Bool × Bool × Bool × Bool × Bool × Bool × Int × Int × Int × Int × Int × Int) := if l0.length < 12 then some (0, false, 0, false, false, false, false, false, false, false, 0, 0, 0, 0, 0, 8) else (spec_l02Num.f k ((strOfNums (l0.take 12)).extract 2 4)).bind fun f => (spec_l02Num.f k ((strOfNums (l0.take 12)).extract 0 2)).bind fun id => (spec_l04Bit.f f 15).bind fun b15 => (spec_l04Bit.f f 10).bind fun b10 => (spec_l04Bit.f f 9).bind fun b9 => (spec_l04Bit.f f 8).bind fun b8 => (spec_l04Bit.f f 7).bind fun b7 => (spec_l04Bit.f f 6).bind fun b6 => (spec_l04Bit.f f 5).bind fun b5 => (spec_l04Bit.f f 4).bind fun b4 => (spec_l02Num.f k ((strOfNums (l0.take 12)).extract 4 6)).bind fun n0 => (spec_l02Num.f k ((strOfNums (l0.take 12)).extract 6 8)).bind fun n1 => (spec_l02Num.f k ((strOfNums (l0.take 12)).extract 8 10)).bind fun n2 => (spec_l02Num.f k ((strOfNums (l0.take 12)).extract 10 12)).bind fun n3 => some (id, b15, Go.bits .and .i64 (shr .i64 f 11) 15, b10, b9, b8, b7, b6, b5, b4, Go.bits .and .i64 f 15, n0, n1, n2, n3, 0)
theorem spec_DecodeHead.mono : ∀ a0 k, LeO (spec_DecodeHead.f k a0) (spec_DecodeHead.f (k + 1) a0) := by
  intro a0 k
  unfold spec_DecodeHead.f
  repeat' first
      | (with_reducible exact spec_l02Num.mono _ _)
      | (with_reducible exact LeO.refl _)
      | (with_reducible refine LeO.ite ?_ ?_)
      | (with_reducible refine LeO.bind ?_ (fun _ => ?_))
set_option maxHeartbeats 1000000 in
theorem spec_DecodeHead.calls (k : Nat) (A0 : Option Addr) (c0 : Nat) (l0 : List Int) (r0 : Int) (r1 : Bool) (r2 : Int) (r3 : Bool) (r4 : Bool) (r5 : Bool) (r6 : Bool) (r7 : Bool) (r8 : Bool) (r9 : Bool) (r10 : Int) (r11 : Int) (r12 : Int) (r13 : Int) (r14 : Int) (r15 : Int) (w : World) (hr0 : Kd.C (Kd.int .u8) w A0 l0.length l0) (hc0 : l0.length ≤ c0) (h : spec_DecodeHead.f k l0 = some (r0, r1, r2, r3, r4, r5, r6, r7, r8, r9, r10, r11, r12, r13, r14, r15)) :
    Calls Try.prog 5 #[.slice A0 l0.length c0] w fun e w' => e = .returned (.tuple #[.agg #[.int .i64 r0, .bool r1, .int .i64 r2, .bool r3, .bool r4, .bool r5, .bool r6, .bool r7, .bool r8, .bool r9, .int .i64 r10], .agg #[.int .i64 r11, .int .i64 r12, .int .i64 r13, .int .i64 r14], .int .i64 r15]) ∧ Below w.heap.size w w' := by
  unfold spec_DecodeHead.f at h
  split at h
  case isTrue hl =>
    cases h
    exact spec_DecodeHead.short A0 c0 l0 w hr0 hc0 hl
  case isFalse hl =>
    obtain ⟨f, e0, h⟩ := Option.bind_eq_some_iff.mp h
    obtain ⟨id, e1, h⟩ := Option.bind_eq_some_iff.mp h
    obtain ⟨b15, e2, h⟩ := Option.bind_eq_some_iff.mp h
    obtain ⟨b10, e3, h⟩ := Option.bind_eq_some_iff.mp h
    obtain ⟨b9, e4, h⟩ := Option.bind_eq_some_iff.mp h
    obtain ⟨b8, e5, h⟩ := Option.bind_eq_some_iff.mp h
    obtain ⟨b7, e6, h⟩ := Option.bind_eq_some_iff.mp h
    obtain ⟨b6, e7, h⟩ := Option.bind_eq_some_iff.mp h
    obtain ⟨b5, e8, h⟩ := Option.bind_eq_some_iff.mp h
    obtain ⟨b4, e9, h⟩ := Option.bind_eq_some_iff.mp h
    obtain ⟨n0, e10, h⟩ := Option.bind_eq_some_iff.mp h
    obtain ⟨n1, e11, h⟩ := Option.bind_eq_some_iff.mp h
    obtain ⟨n2, e12, h⟩ := Option.bind_eq_some_iff.mp h
    obtain ⟨n3, e13, h⟩ := Option.bind_eq_some_iff.mp h
    cases h
    exact spec_DecodeHead.long A0 c0 l0 w hr0 hc0 (by omega) _ rfl k _ _ _ _ _ _ _ _ _ _ _ _ _ _ e0 e1 e10 e11 e12 e13 e2 e3 e4 e5 e6 e7 e8 e9

end Go.Proofs.Ytlmapgfmfamgcaa.F
