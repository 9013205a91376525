/- Part 2 of 2 of the proof of FnExactWithSerial: what each Go function on its way computes, that the Go code does just this, and what the law says of it. No condition beyond the statement's own. -/
import Derived.Test.YtbaajohjglhpfaaDoorWWords
import Derived.Test.YtbaajohjglhpfaaDoorWMore
import Derived.Lib.Bytes
import Derived.Laws.BitsLemmas
import Derived.Test.YtbaajohjglhpfaaDoorRows
import Derived.Test.YtbaajohjglhpfaaDoorTie
import Derived.Test.YtbaajohjglhpfaaDoorCards
import Derived.OpenVars
import Derived.WalkKit
import Derived.ProofKit
import Derived.OpenShut
import Derived.ShutString
import Derived.ChangeOld
import Derived.Below
import Derived.SizedLaws
import Derived.Test.YtbaajohjglhpfaaDoorMFnExactWithSerial1
namespace Go.Proofs.YtbaajohjglhpfaaDoor.F
open Go Go.Shelf Go.RowKit Go.Proofs.YtbaajohjglhpfaaDoorW.PrintWords Go.Proofs.YtbaajohjglhpfaaDoorW.PrintLast Go.Proofs.YtbaajohjglhpfaaDoorW.PrintMore
attribute [local go_sem] max2_int min2_int max_two min_two max_three min_three max_four min_four   -- for this text's walks alone
set_option linter.unusedVariables false
set_option linter.unusedSimpArgs false

/-! ### impl_p32: function 30 -/
def impl_p32.f (a0 : Int) : Option ByteArray := some (strOfNums [a0 % 4294967296 / 16777216, a0 % 4294967296 / 65536 % 256, a0 % 4294967296 / 256 % 256, a0 % 256])
set_option maxHeartbeats 4000000 in
set_option maxRecDepth 100000 in
theorem impl_p32.calls (a0 : Int) (r : ByteArray) (w : World) (h : impl_p32.f a0 = some r) :
    Calls Tryd.prog 30 #[.int .i64 a0] w fun e w' => e = .returned (.string r) ∧ Below w.heap.size w w' := by
  obtain rfl := Option.some.inj h
  clear h
  go_enter Tryd.func30, Tryd.ntmps30
  go_wp2
  have h0 : 0 ≤ a0 % 4294967296 := Int.emod_nonneg _ (by decide)
  have h1 : a0 % 4294967296 < 4294967296 := Int.emod_lt_of_pos _ (by decide)
  have hblk : ∀ o, (w.alloc o).heap[w.heap.size]? = some o := blk_new w
  have hZ : ∀ W : World, W.heap[w.heap.size]? = some (Obj.cells #[Value.int IntKind.u8 0, Value.int IntKind.u8 0, Value.int IntKind.u8 0, Value.int IntKind.u8 0] 65) →
      (∀ j, j < 4 → W.cell? ⟨w.heap.size, j, none⟩ = some (.int .u8 0)) ∧ (∀ j, j < 4 → W.frozen? ⟨w.heap.size, j, none⟩ = false) := by
    intro W hW
    refine ⟨fun j hj => ?_, fun j hj => ?_⟩
    · rw [cell_of_row W w.heap.size j _ _ _ hW]
      rcases (show j = 0 ∨ j = 1 ∨ j = 2 ∨ j = 3 by omega) with rfl | rfl | rfl | rfl <;> rfl
    · simp [World.frozen?, hW]
  obtain ⟨hc, hf⟩ := hZ ((w.alloc (Obj.cells #[Value.int IntKind.u8 0, Value.int IntKind.u8 0, Value.int IntKind.u8 0, Value.int IntKind.u8 0] 65)).drew) (hblk _)
  have hlt : w.heap.size < ((w.alloc (Obj.cells #[Value.int IntKind.u8 0, Value.int IntKind.u8 0, Value.int IntKind.u8 0, Value.int IntKind.u8 0] 65)).drew).heap.size := by
    show w.heap.size < (w.heap.push _).size
    rw [Array.size_push]
    omega
  refine start_ (n := 5) (S := fun w' => True) (ds := []) #[false, false, false, false, false] (by kernel_rfl) rfl rfl trivial (fun hHeld => ?_)
  refine pure_ (i := 1) (N := some 5) (v := ?_) (a' := ?_) #[false, true, false, false, false] rfl rfl (by kernel_rfl) (fun _ _ _ h => h) (Or.inl ⟨by rfl, ?_⟩) ?_ ?_
  rotate_left
  · intro w'
    go_simp
    with_reducible rfl
  rotate_left
  · simp only [Act.put, List.setIfInBounds_toArray, List.set_cons_zero, List.set_cons_succ, i64_w, i32_w]
    rfl
  refine pure_ (i := 2) (N := some 6) (v := ?_) (a' := ?_) #[false, true, true, false, false] rfl rfl (by kernel_rfl) (fun _ _ _ h => h) (Or.inl ⟨by rfl, ?_⟩) ?_ ?_
  rotate_left
  · intro w'
    go_simp
    with_reducible rfl
  rotate_left
  · simp only [Act.put, List.setIfInBounds_toArray, List.set_cons_zero, List.set_cons_succ, i64_w, i32_w]
    rfl
  refine pure_ (i := 3) (N := some 7) (v := ?_) (a' := ?_) #[false, true, true, true, false] rfl rfl (by kernel_rfl) (fun _ _ _ h => h) (Or.inl ⟨by rfl, ?_⟩) ?_ ?_
  rotate_left
  · intro w'
    go_simp
    with_reducible rfl
  rotate_left
  · simp only [Act.put, List.setIfInBounds_toArray, List.set_cons_zero, List.set_cons_succ, i64_w, i32_w]
    rfl
  refine take_ (i := 0) (N := some 4) (v := ?_) (a' := ?_) #[true, true, true, true, false] rfl rfl (by kernel_rfl) (fun _ _ _ h => h) (Or.inl ⟨by rfl, ?_⟩) hHeld ?_ ?_
  rotate_left
  · intro w' _
    go_simp
    with_reducible rfl
  rotate_left
  · simp only [Act.put, List.setIfInBounds_toArray, List.set_cons_zero, List.set_cons_succ, i64_w, i32_w]
    rfl
  refine one_ (i := 4) (N := some 8) #[true, true, true, true, true] rfl rfl (by kernel_rfl) (by decide) (fun K hK => ?_)
  refine goes_ Tryd.func44 (by kernel_rfl) rfl #[.agg #[], .slice (some ⟨w.heap.size, 0, none⟩) 4 4, .int .u32 (a0 % 4294967296)] (by rfl) rfl rfl (by simp only [List.map_toArray, List.map_cons, List.map_nil]; rfl) ?_
  with_reducible refine (xPut32.calls w.heap.size 4 _ h0 h1 _ _ _ _ _ (hc 0 (by decide)) (hc 1 (by decide)) (hc 2 (by decide)) (hc 3 (by decide)) (hf 0 (by decide)) (hf 1 (by decide)) (hf 2 (by decide)) (hf 3 (by decide)) hlt).mono ?_
  rintro e w3 ⟨rfl, hr, hb⟩
  refine ⟨_, rfl, ?_⟩
  refine hK.out _ _ trivial (fun hHeld => ?_)
  clear hK K
  refine norm_ (a' := ?_) ?_ ?_
  rotate_left
  · show Act.put _ (some 8) _ = _
    simp only [Act.put, List.setIfInBounds_toArray, List.set_cons_zero, List.set_cons_succ, i64_w, i32_w]
    rfl
  refine done_ (by kernel_rfl) ?_

  have hcv := fun c => string_of_reads (P := Tryd.prog) (c := c) Tryd.underlying49 Tryd.underlying5 Tryd.underlying9 hr
  go_wp2
  go_ret
  exact ⟨rfl, (below_drew (below_alloc (Below.refl w.heap.size w) _)).trans hb⟩

end Go.Proofs.YtbaajohjglhpfaaDoor.F
namespace Go.Proofs.YtbaajohjglhpfaaDoor.F
open Go Go.Shelf Go.RowKit Go.Proofs.YtbaajohjglhpfaaDoorW.PrintWords Go.Proofs.YtbaajohjglhpfaaDoorW.PrintLast Go.Proofs.YtbaajohjglhpfaaDoorW.PrintMore
attribute [local go_sem] max2_int min2_int max_two min_two max_three min_three max_four min_four   -- for this text's walks alone
set_option linter.unusedVariables false
set_option linter.unusedSimpArgs false

/-! ### impl_WithSerial: function 14 -/
def impl_WithSerial.f (k : Nat) (a0 : ByteArray) (a1 : Int) : Option (ByteArray × Int) := (impl_CheckData.f k 6 a0).bind fun t101 => (if t101 = 0 then (if a1 < 0 then (some ((⟨#[]⟩ : ByteArray), 32)) else (if a1 > 4294967295 then (some ((⟨#[]⟩ : ByteArray), 32)) else (if 0 ≤ (wrap64 ((a0.size : Int) - 20)) then (if (wrap64 ((a0.size : Int) - 20)) ≤ (a0.size : Int) then ((impl_p32.f a1).bind fun t102 => (if (a0.extract 0 ((wrap64 ((a0.size : Int) - 20)) : Int).toNat).size + t102.size ≤ 9223372036854775807 then (if 0 ≤ (wrap64 ((wrap64 ((a0.size : Int) - 20)) + 4)) then (if (wrap64 ((wrap64 ((a0.size : Int) - 20)) + 4)) ≤ (a0.size : Int) then (if ((a0.extract 0 ((wrap64 ((a0.size : Int) - 20)) : Int).toNat) ++ t102).size + (a0.extract ((wrap64 ((wrap64 ((a0.size : Int) - 20)) + 4)) : Int).toNat a0.size).size ≤ 9223372036854775807 then (some (((a0.extract 0 ((wrap64 ((a0.size : Int) - 20)) : Int).toNat) ++ t102) ++ (a0.extract ((wrap64 ((wrap64 ((a0.size : Int) - 20)) + 4)) : Int).toNat a0.size), 0)) else (none)) else (none)) else (none)) else (none))) else (none)) else (none)))) else (some ((⟨#[]⟩ : ByteArray), 7)))
theorem impl_WithSerial.mono : ∀ a0 a1 k, LeO (impl_WithSerial.f k a0 a1) (impl_WithSerial.f (k + 1) a0 a1) := by
  intro a0 a1 k
  unfold impl_WithSerial.f
  repeat' first
      | (with_reducible exact impl_CheckData.mono _ _ _)
      | (with_reducible exact LeO.refl _)
      | (with_reducible exact LeO.none _)
      | (with_reducible refine LeO.ite ?_ ?_)
      | (with_reducible refine LeO.bind ?_ (fun _ => ?_))
      | exact impl_CheckData.mono _ _ _
      | exact LeO.none _
      | refine LeO.ite ?_ ?_
      | refine LeO.bind ?_ (fun _ => ?_)
def impl_WithSerial.T6 : Bool × List (List Nat × List Nat) := (true, [([], []), ([], []), ([0, 1], [0, 1]), ([], []), ([3], [3]), ([2, 4], [2, 4]), ([], []), ([], []), ([7], [7]), ([6, 8], [6, 8]), ([5, 9], [5, 9]), ([10, 4, 0, 1, 2, 3, 4, 5, 6, 7, 8, 9, 10], [10]), ([11, 0, 1, 2, 3, 4, 5, 6, 7, 8, 9, 10, 11], [])])
def impl_WithSerial.B6 : List Nat := [0, 0, 3, 0, 8, 31, 0, 0, 128, 448, 1023, 2047, 4095]
theorem impl_WithSerial.tab6 : rtab .any (opsOf Tryd.f14 6) = impl_WithSerial.T6 := by kernel_rfl
theorem impl_WithSerial.bits6 : waitsOk impl_WithSerial.T6.2 impl_WithSerial.B6 = true := by kernel_rfl
set_option maxHeartbeats 8000000 in
set_option maxRecDepth 100000 in
theorem impl_WithSerial.calls (k : Nat) (a0 : ByteArray) (a1 : Int) (r1 : ByteArray) (r2 : Int) (w : World) (h : impl_WithSerial.f k a0 a1 = some (r1, r2)) (hG : Glob w) :
    Calls Tryd.prog 14 #[.string a0, .int .i64 a1] w fun e w' => e = .returned (.tuple #[.string r1, .int .i64 r2]) ∧ Below w.heap.size w w' := by
  have HG := Aside0.mk hG
  clear hG
  have HB := Aside0.mk (Below.refl w.heap.size w)
  have H : ((impl_CheckData.f k 6 a0).bind fun t101 => (if t101 = 0 then (if a1 < 0 then (some ((⟨#[]⟩ : ByteArray), 32)) else (if a1 > 4294967295 then (some ((⟨#[]⟩ : ByteArray), 32)) else (if 0 ≤ (wrap64 ((a0.size : Int) - 20)) then (if (wrap64 ((a0.size : Int) - 20)) ≤ (a0.size : Int) then ((impl_p32.f a1).bind fun t102 => (if (a0.extract 0 ((wrap64 ((a0.size : Int) - 20)) : Int).toNat).size + t102.size ≤ 9223372036854775807 then (if 0 ≤ (wrap64 ((wrap64 ((a0.size : Int) - 20)) + 4)) then (if (wrap64 ((wrap64 ((a0.size : Int) - 20)) + 4)) ≤ (a0.size : Int) then (if ((a0.extract 0 ((wrap64 ((a0.size : Int) - 20)) : Int).toNat) ++ t102).size + (a0.extract ((wrap64 ((wrap64 ((a0.size : Int) - 20)) + 4)) : Int).toNat a0.size).size ≤ 9223372036854775807 then (some (((a0.extract 0 ((wrap64 ((a0.size : Int) - 20)) : Int).toNat) ++ t102) ++ (a0.extract ((wrap64 ((wrap64 ((a0.size : Int) - 20)) + 4)) : Int).toNat a0.size), 0)) else (none)) else (none)) else (none)) else (none))) else (none)) else (none)))) else (some ((⟨#[]⟩ : ByteArray), 7)))) = some (r1, r2) := h
  clear h
  replace H := Option.bind_eq_some_iff.mp H
  obtain ⟨t101, A30, H⟩ := H
  replace H : (if t101 = 0 then (if a1 < 0 then (some ((⟨#[]⟩ : ByteArray), 32)) else (if a1 > 4294967295 then (some ((⟨#[]⟩ : ByteArray), 32)) else (if 0 ≤ (wrap64 ((a0.size : Int) - 20)) then (if (wrap64 ((a0.size : Int) - 20)) ≤ (a0.size : Int) then ((impl_p32.f a1).bind fun t102 => (if (a0.extract 0 ((wrap64 ((a0.size : Int) - 20)) : Int).toNat).size + t102.size ≤ 9223372036854775807 then (if 0 ≤ (wrap64 ((wrap64 ((a0.size : Int) - 20)) + 4)) then (if (wrap64 ((wrap64 ((a0.size : Int) - 20)) + 4)) ≤ (a0.size : Int) then (if ((a0.extract 0 ((wrap64 ((a0.size : Int) - 20)) : Int).toNat) ++ t102).size + (a0.extract ((wrap64 ((wrap64 ((a0.size : Int) - 20)) + 4)) : Int).toNat a0.size).size ≤ 9223372036854775807 then (some (((a0.extract 0 ((wrap64 ((a0.size : Int) - 20)) : Int).toNat) ++ t102) ++ (a0.extract ((wrap64 ((wrap64 ((a0.size : Int) - 20)) + 4)) : Int).toNat a0.size), 0)) else (none)) else (none)) else (none)) else (none))) else (none)) else (none)))) else (some ((⟨#[]⟩ : ByteArray), 7))) = some (r1, r2) := H
  have A3 := Aside0.mk A30
  clear A30
  by_cases c4 : t101 = 0
  · rw [if_pos c4] at H
    have c4b0 : (t101 == 0) = true := beq_iff_eq.mpr c4
    have c4b1 : (t101 != 0) = false := bne_eq_false_iff_eq.mpr c4
    clear c4
    by_cases c5 : a1 < 0
    · rw [if_pos c5] at H
      have c5b0 : decide (a1 < 0) = true := decide_eq_true c5
      clear c5
      simp only [Option.some.injEq, Prod.mk.injEq] at H
      obtain ⟨rfl, rfl⟩ := H
      go_enter Tryd.func14, Tryd.ntmps14
      go_wp2_with (first | ((with_reducible refine gate_callee (f := 10) rfl ?_); refine goesL_ (some 8) rfl rfl Tryd.func10 (by kernel_rfl) rfl #[.int .i64 6, .string a0] rfl (by (try simp only [List.map_toArray, List.map_cons, List.map_nil]); first | done | rfl | (simp only [List.length_drop, List.length_take]; rfl)) ?_; (with_reducible refine (impl_CheckData.calls k 6 a0 t101 _ A3.out (HG.out.below (by repeat (first | (with_reducible first | exact HB.out | apply below_alloc | apply pw_below_drewN | apply below_drew1) | exact HB.out)))).mono ?_); rintro e w6 ⟨rfl, hb⟩; refine ⟨_, rfl, ?_⟩; have n0_ := Aside0.mk (below_step (by repeat (first | (with_reducible first | exact HB.out | apply below_alloc | apply pw_below_drewN | apply below_drew1) | exact HB.out)) hb); clear HB; have HB := n0_; clear n0_; (try clear hb); (try clear hb2); (try clear hk); (try clear hi)))
      go_ret2
      exact ⟨by first | rfl | (simp [errW_none, errW_some] <;> rfl) | (simp [*, errW_none, errW_some] <;> rfl), by repeat (first | (with_reducible first | exact HB.out | apply below_alloc | apply pw_below_drewN | apply below_drew1) | exact HB.out)⟩
    · rw [if_neg c5] at H
      have c5b0 : decide (a1 < 0) = false := decide_eq_false c5
      clear c5
      by_cases c7 : a1 > 4294967295
      · rw [if_pos c7] at H
        have c7b0 : decide (4294967295 < a1) = true := decide_eq_true c7
        clear c7
        simp only [Option.some.injEq, Prod.mk.injEq] at H
        obtain ⟨rfl, rfl⟩ := H
        go_enter Tryd.func14, Tryd.ntmps14
        go_wp2_with (first | ((with_reducible refine gate_callee (f := 10) rfl ?_); refine goesL_ (some 8) rfl rfl Tryd.func10 (by kernel_rfl) rfl #[.int .i64 6, .string a0] rfl (by (try simp only [List.map_toArray, List.map_cons, List.map_nil]); first | done | rfl | (simp only [List.length_drop, List.length_take]; rfl)) ?_; (with_reducible refine (impl_CheckData.calls k 6 a0 t101 _ A3.out (HG.out.below (by repeat (first | (with_reducible first | exact HB.out | apply below_alloc | apply pw_below_drewN | apply below_drew1) | exact HB.out)))).mono ?_); rintro e w8 ⟨rfl, hb⟩; refine ⟨_, rfl, ?_⟩; have n0_ := Aside0.mk (below_step (by repeat (first | (with_reducible first | exact HB.out | apply below_alloc | apply pw_below_drewN | apply below_drew1) | exact HB.out)) hb); clear HB; have HB := n0_; clear n0_; (try clear hb); (try clear hb2); (try clear hk); (try clear hi)))
        go_ret2
        exact ⟨by first | rfl | (simp [errW_none, errW_some] <;> rfl) | (simp [*, errW_none, errW_some] <;> rfl), by repeat (first | (with_reducible first | exact HB.out | apply below_alloc | apply pw_below_drewN | apply below_drew1) | exact HB.out)⟩
      · rw [if_neg c7] at H
        have c7b0 : decide (4294967295 < a1) = false := decide_eq_false c7
        clear c7
        obtain ⟨ji9, hji9⟩ : ∃ j_ : Int, (wrap64 ((a0.size : Int) - 20)) = j_ := ⟨_, rfl⟩
        replace H : (if 0 ≤ (ji9) then (if (ji9) ≤ (a0.size : Int) then ((impl_p32.f a1).bind fun t102 => (if (a0.extract 0 ((ji9) : Int).toNat).size + t102.size ≤ 9223372036854775807 then (if 0 ≤ (wrap64 ((ji9) + 4)) then (if (wrap64 ((ji9) + 4)) ≤ (a0.size : Int) then (if ((a0.extract 0 ((ji9) : Int).toNat) ++ t102).size + (a0.extract ((wrap64 ((ji9) + 4)) : Int).toNat a0.size).size ≤ 9223372036854775807 then (some (((a0.extract 0 ((ji9) : Int).toNat) ++ t102) ++ (a0.extract ((wrap64 ((ji9) + 4)) : Int).toNat a0.size), 0)) else (none)) else (none)) else (none)) else (none))) else (none)) else (none)) = some (r1, r2) := by first | (rw [hji9] at H; exact H) | (simp only [hji9] at H ⊢; exact H)
        (try rw [hji9] at A3)
        have hji9w : (IntKind.i64.wrap ((a0.size : Int) - 20)) = ji9 := (i64_w _).trans hji9
        by_cases c10 : 0 ≤ (ji9)
        · rw [if_pos c10] at H
          have c10b0 := eq_true c10
          have c10b1 : decide (0 ≤ (ji9)) = true := decide_eq_true c10
          clear c10
          by_cases c11 : (ji9) ≤ (a0.size : Int)
          · rw [if_pos c11] at H
            have c11b0 := eq_true c11
            have c11b1 : decide ((ji9) ≤ (a0.size : Int)) = true := decide_eq_true c11
            clear c11
            replace H := Option.bind_eq_some_iff.mp H
            obtain ⟨t102, A120, H⟩ := H
            replace H : (if (a0.extract 0 ((ji9) : Int).toNat).size + t102.size ≤ 9223372036854775807 then (if 0 ≤ (wrap64 ((ji9) + 4)) then (if (wrap64 ((ji9) + 4)) ≤ (a0.size : Int) then (if ((a0.extract 0 ((ji9) : Int).toNat) ++ t102).size + (a0.extract ((wrap64 ((ji9) + 4)) : Int).toNat a0.size).size ≤ 9223372036854775807 then (some (((a0.extract 0 ((ji9) : Int).toNat) ++ t102) ++ (a0.extract ((wrap64 ((ji9) + 4)) : Int).toNat a0.size), 0)) else (none)) else (none)) else (none)) else (none)) = some (r1, r2) := H
            have A12 := Aside0.mk A120
            clear A120
            by_cases c13 : (a0.extract 0 ((ji9) : Int).toNat).size + t102.size ≤ 9223372036854775807
            · rw [if_pos c13] at H
              have c13b0 := eq_true c13
              have c13b1 : decide ((a0.extract 0 ((ji9) : Int).toNat).size + t102.size ≤ 9223372036854775807) = true := decide_eq_true c13
              try have c13b2 : (9223372036854775807 < (a0.extract 0 ((ji9) : Int).toNat).size + t102.size) = False := eq_false (Nat.not_lt.2 c13)
              have c13b3 : (9223372036854775807 < ji9.toNat + t102.size) = False := eq_false (by have h1_ := of_eq_true c11b0; have h2_ := c13; simp only [ByteArray.size_append, ByteArray.size_extract] at h2_; omega)
              obtain ⟨ji14, hji14⟩ : ∃ j_ : Int, (wrap64 ((ji9) + 4)) = j_ := ⟨_, rfl⟩
              replace H : (if 0 ≤ (ji14) then (if (ji14) ≤ (a0.size : Int) then (if ((a0.extract 0 ((ji9) : Int).toNat) ++ t102).size + (a0.extract ((ji14) : Int).toNat a0.size).size ≤ 9223372036854775807 then (some (((a0.extract 0 ((ji9) : Int).toNat) ++ t102) ++ (a0.extract ((ji14) : Int).toNat a0.size), 0)) else (none)) else (none)) else (none)) = some (r1, r2) := by first | (rw [hji14] at H; exact H) | (simp only [hji14] at H ⊢; exact H)
              (try rw [hji14] at A3)
              (try rw [hji14] at A12)
              have hji14w : (IntKind.i64.wrap ((ji9) + 4)) = ji14 := (i64_w _).trans hji14
              by_cases c15 : 0 ≤ (ji14)
              · rw [if_pos c15] at H
                have c15b0 := eq_true c15
                have c15b1 : decide (0 ≤ (ji14)) = true := decide_eq_true c15
                clear c15
                by_cases c16 : (ji14) ≤ (a0.size : Int)
                · rw [if_pos c16] at H
                  have c16b0 := eq_true c16
                  have c16b1 : decide ((ji14) ≤ (a0.size : Int)) = true := decide_eq_true c16
                  clear c16
                  by_cases c17 : ((a0.extract 0 ((ji9) : Int).toNat) ++ t102).size + (a0.extract ((ji14) : Int).toNat a0.size).size ≤ 9223372036854775807
                  · rw [if_pos c17] at H
                    have c17b0 := eq_true c17
                    have c17b1 : decide (((a0.extract 0 ((ji9) : Int).toNat) ++ t102).size + (a0.extract ((ji14) : Int).toNat a0.size).size ≤ 9223372036854775807) = true := decide_eq_true c17
                    try have c17b2 : (9223372036854775807 < ((a0.extract 0 ((ji9) : Int).toNat) ++ t102).size + (a0.extract ((ji14) : Int).toNat a0.size).size) = False := eq_false (Nat.not_lt.2 c17)
                    have c17b3 : (9223372036854775807 < ji9.toNat + t102.size + (a0.size - ji14.toNat)) = False := eq_false (by have h1_ := of_eq_true c11b0; have h2_ := c17; have h3_ := of_eq_true c16b0; simp only [ByteArray.size_append, ByteArray.size_extract] at h2_; omega)
                    simp only [Option.some.injEq, Prod.mk.injEq] at H
                    obtain ⟨rfl, rfl⟩ := H
                    go_enter Tryd.func14, Tryd.ntmps14
                    try go_wp2_with (first | ((with_reducible refine gate_callee (f := 10) rfl ?_); refine goesL_ (some 8) rfl rfl Tryd.func10 (by kernel_rfl) rfl #[.int .i64 6, .string a0] rfl (by (try simp only [List.map_toArray, List.map_cons, List.map_nil]); first | done | rfl | (simp only [List.length_drop, List.length_take]; rfl)) ?_; (with_reducible refine (impl_CheckData.calls k 6 a0 t101 _ A3.out (HG.out.below (by repeat (first | (with_reducible first | exact HB.out | apply below_alloc | apply pw_below_drewN | apply below_drew1) | exact HB.out)))).mono ?_); rintro e w18 ⟨rfl, hb⟩; refine ⟨_, rfl, ?_⟩; have n0_ := Aside0.mk (below_step (by repeat (first | (with_reducible first | exact HB.out | apply below_alloc | apply pw_below_drewN | apply below_drew1) | exact HB.out)) hb); clear HB; have HB := n0_; clear n0_; (try clear hb); (try clear hb2); (try clear hk); (try clear hi)))
                    have n0_ := Aside0.mk (below_drew1 HB.out)
                    clear HB
                    have HB := n0_
                    clear n0_
                    refine start_ (n := 13) (S := fun w' => True) (ds := []) #[false, false, false, false, false, false, false, false, false, false, false, false, false] (by kernel_rfl) rfl rfl trivial (fun hHeld => ?_); refine with_tabW impl_WithSerial.tab6 impl_WithSerial.bits6 (fun HT_ HW_ => ?_)
                    generalize w18.drew = w19 at HB hHeld ⊢
                    refine pure_ (i := 0) (N := some 19) (v := ?_) (a' := ?_) #[true, false, false, false, false, false, false, false, false, false, false, false, false] rfl rfl (any_of HT_.out (by kernel_rfl)) (fun _ _ _ h => h) (Or.inl ⟨by rfl, ?_⟩) ?_ ?_
                    rotate_left
                    · intro w'
                      go_simp
                      with_reducible rfl
                    rotate_left
                    · simp only [Act.put, List.setIfInBounds_toArray, List.set_cons_zero, List.set_cons_succ, i64_w, i32_w]
                      rfl
                    refine pure_ (i := 1) (N := some 20) (v := ?_) (a' := ?_) #[true, true, false, false, false, false, false, false, false, false, false, false, false] rfl rfl (any_of HT_.out (by kernel_rfl)) (fun _ _ _ h => h) (Or.inl ⟨by rfl, ?_⟩) ?_ ?_
                    rotate_left
                    · intro w'
                      go_simp
                      with_reducible rfl
                    rotate_left
                    · simp only [Act.put, List.setIfInBounds_toArray, List.set_cons_zero, List.set_cons_succ, i64_w, i32_w]
                      rfl
                    refine pure_ (i := 2) (N := some 21) (v := ?_) (a' := ?_) #[true, true, true, false, false, false, false, false, false, false, false, false, false] rfl rfl (any_of HT_.out (by kernel_rfl)) (fun _ _ _ h => h) (Or.inl ⟨by rfl, ?_⟩) ?_ ?_
                    rotate_left
                    · intro w'
                      go_simp
                      with_reducible rfl
                    rotate_left
                    · simp only [Act.put, List.setIfInBounds_toArray, List.set_cons_zero, List.set_cons_succ, i64_w, i32_w]
                      rfl
                    refine pure_ (i := 3) (N := some 22) (v := ?_) (a' := ?_) #[true, true, true, true, false, false, false, false, false, false, false, false, false] rfl rfl (any_of HT_.out (by kernel_rfl)) (fun _ _ _ h => h) (Or.inl ⟨by rfl, ?_⟩) ?_ ?_
                    rotate_left
                    · intro w'
                      go_simp
                      with_reducible rfl
                    rotate_left
                    · simp only [Act.put, List.setIfInBounds_toArray, List.set_cons_zero, List.set_cons_succ, i64_w, i32_w]
                      rfl
                    refine pure_ (i := 6) (N := some 25) (v := ?_) (a' := ?_) #[true, true, true, true, false, false, true, false, false, false, false, false, false] rfl rfl (any_of HT_.out (by kernel_rfl)) (fun _ _ _ h => h) (Or.inl ⟨by rfl, ?_⟩) ?_ ?_
                    rotate_left
                    · intro w'
                      go_simp
                      with_reducible rfl
                    rotate_left
                    · simp only [Act.put, List.setIfInBounds_toArray, List.set_cons_zero, List.set_cons_succ, i64_w, i32_w]
                      rfl
                    refine pure_ (i := 7) (N := some 26) (v := ?_) (a' := ?_) #[true, true, true, true, false, false, true, true, false, false, false, false, false] rfl rfl (any_of HT_.out (by kernel_rfl)) (fun _ _ _ h => h) (Or.inl ⟨by rfl, ?_⟩) ?_ ?_
                    rotate_left
                    · intro w'
                      go_simp
                      with_reducible rfl
                    rotate_left
                    · simp only [Act.put, List.setIfInBounds_toArray, List.set_cons_zero, List.set_cons_succ, i64_w, i32_w]
                      rfl
                    refine pure_ (i := 8) (N := some 27) (v := ?_) (a' := ?_) #[true, true, true, true, false, false, true, true, true, false, false, false, false] rfl rfl (any_of HT_.out (by kernel_rfl)) (fun _ _ _ h => h) (Or.inl ⟨by rfl, ?_⟩) ?_ ?_
                    rotate_left
                    · intro w'
                      go_simp
                      with_reducible rfl
                    rotate_left
                    · simp only [Act.put, List.setIfInBounds_toArray, List.set_cons_zero, List.set_cons_succ, i64_w, i32_w]
                      rfl
                    refine pure_ (i := 9) (N := some 28) (v := ?_) (a' := ?_) #[true, true, true, true, false, false, true, true, true, true, false, false, false] rfl rfl (any_of HT_.out (by kernel_rfl)) (fun _ _ _ h => h) (Or.inl ⟨by rfl, ?_⟩) ?_ ?_
                    rotate_left
                    · intro w'
                      go_simp
                      with_reducible rfl
                    rotate_left
                    · simp only [Act.put, List.setIfInBounds_toArray, List.set_cons_zero, List.set_cons_succ, i64_w, i32_w]
                      rfl
                    refine one_ (i := 4) (N := some 23) #[true, true, true, true, true, false, true, true, true, true, false, false, false] rfl rfl (one_of HT_.out (by kernel_rfl)) (by decide) (fun K hK => ?_)
                    refine goes_ Tryd.func30 (by kernel_rfl) rfl #[.int .i64 a1] (by rfl) rfl rfl (by (try simp only [List.map_toArray, List.map_cons, List.map_nil]); first | done | rfl | (simp only [List.length_drop, List.length_take]; rfl)) ?_
                    with_reducible refine (impl_p32.calls a1 t102 _ A12.out).mono ?_
                    rintro e w20 ⟨rfl, hb⟩
                    refine ⟨_, rfl, ?_⟩
                    have n0_ := Aside0.mk (below_step (by repeat (first | (with_reducible first | exact HB.out | apply below_alloc | apply pw_below_drewN | apply below_drew1) | exact HB.out)) hb)
                    clear HB
                    have HB := n0_
                    clear n0_
                    (try clear hb)
                    (try clear hb2)
                    (try clear hk)
                    (try clear hi)
                    refine hK.out _ _ trivial (fun hHeld => ?_)
                    clear hK K
                    refine norm_ (a' := ?_) ?_ ?_
                    rotate_left
                    · show Act.put _ (some 23) _ = _
                      simp only [Act.put, List.setIfInBounds_toArray, List.set_cons_zero, List.set_cons_succ, i64_w, i32_w]
                      rfl
                    refine pure_ (i := 5) (N := some 24) (v := ?_) (a' := ?_) #[true, true, true, true, true, true, true, true, true, true, false, false, false] rfl rfl (any_of HT_.out (by kernel_rfl)) (fun _ _ _ h => h) (Or.inl ⟨by rfl, ?_⟩) ?_ ?_
                    rotate_left
                    · intro w'
                      go_simp
                      with_reducible rfl
                    rotate_left
                    · simp only [Act.put, List.setIfInBounds_toArray, List.set_cons_zero, List.set_cons_succ, i64_w, i32_w]
                      rfl
                    refine pure_ (i := 10) (N := some 29) (v := ?_) (a' := ?_) #[true, true, true, true, true, true, true, true, true, true, true, false, false] rfl rfl (any_of HT_.out (by kernel_rfl)) (fun _ _ _ h => h) (Or.inl ⟨by rfl, ?_⟩) ?_ ?_
                    rotate_left
                    · intro w'
                      go_simp
                      with_reducible rfl
                    rotate_left
                    · simp only [Act.put, List.setIfInBounds_toArray, List.set_cons_zero, List.set_cons_succ, i64_w, i32_w]
                      rfl
                    refine pure_ (i := 11) (N := some 4) (v := ?_) (a' := ?_) #[true, true, true, true, true, true, true, true, true, true, true, true, false] rfl rfl (any_of HT_.out (by kernel_rfl)) (fun _ _ _ h => h) (Or.inl ⟨by rfl, ?_⟩) ?_ ?_
                    rotate_left
                    · intro w'
                      go_simp
                      with_reducible rfl
                    rotate_left
                    · simp only [Act.put, List.setIfInBounds_toArray, List.set_cons_zero, List.set_cons_succ, i64_w, i32_w]
                      rfl
                    refine pure_ (i := 12) (N := some 5) (v := ?_) (a' := ?_) #[true, true, true, true, true, true, true, true, true, true, true, true, true] rfl rfl (any_of HT_.out (by kernel_rfl)) (fun _ _ _ h => h) (Or.inl ⟨by rfl, ?_⟩) ?_ ?_
                    rotate_left
                    · intro w'
                      go_simp
                      with_reducible rfl
                    rotate_left
                    · simp only [Act.put, List.setIfInBounds_toArray, List.set_cons_zero, List.set_cons_succ, i64_w, i32_w]
                      rfl
                    refine done_ (done_of HT_.out (by kernel_rfl)) ?_
                    try go_wp2
                    go_ret2
                    exact ⟨by first | rfl | (simp [errW_none, errW_some] <;> rfl) | (simp only [← hji9, ← hji14]; first | rfl | (simp [errW_none, errW_some] <;> rfl)) | (simp [*, errW_none, errW_some] <;> rfl), by repeat (first | (with_reducible first | exact HB.out | apply below_alloc | apply pw_below_drewN | apply below_drew1) | exact HB.out)⟩
                  · rw [if_neg c17] at H
                    exact absurd H (by simp)
                · rw [if_neg c16] at H
                  exact absurd H (by simp)
              · rw [if_neg c15] at H
                exact absurd H (by simp)
            · rw [if_neg c13] at H
              exact absurd H (by simp)
          · rw [if_neg c11] at H
            exact absurd H (by simp)
        · rw [if_neg c10] at H
          exact absurd H (by simp)
  · rw [if_neg c4] at H
    have c4b0 : (t101 == 0) = false := beq_eq_false_iff_ne.mpr c4
    have c4b1 : (t101 != 0) = true := bne_iff_ne.mpr c4
    simp only [Option.some.injEq, Prod.mk.injEq] at H
    obtain ⟨rfl, rfl⟩ := H
    go_enter Tryd.func14, Tryd.ntmps14
    go_wp2_with (first | ((with_reducible refine gate_callee (f := 10) rfl ?_); refine goesL_ (some 8) rfl rfl Tryd.func10 (by kernel_rfl) rfl #[.int .i64 6, .string a0] rfl (by (try simp only [List.map_toArray, List.map_cons, List.map_nil]); first | done | rfl | (simp only [List.length_drop, List.length_take]; rfl)) ?_; (with_reducible refine (impl_CheckData.calls k 6 a0 t101 _ A3.out (HG.out.below (by repeat (first | (with_reducible first | exact HB.out | apply below_alloc | apply pw_below_drewN | apply below_drew1) | exact HB.out)))).mono ?_); rintro e w21 ⟨rfl, hb⟩; refine ⟨_, rfl, ?_⟩; have n0_ := Aside0.mk (below_step (by repeat (first | (with_reducible first | exact HB.out | apply below_alloc | apply pw_below_drewN | apply below_drew1) | exact HB.out)) hb); clear HB; have HB := n0_; clear n0_; (try clear hb); (try clear hb2); (try clear hk); (try clear hi)))
    go_ret2
    exact ⟨by first | rfl | (simp [errW_none, errW_some] <;> rfl) | (simp [*, errW_none, errW_some] <;> rfl), by repeat (first | (with_reducible first | exact HB.out | apply below_alloc | apply pw_below_drewN | apply below_drew1) | exact HB.out)⟩

end Go.Proofs.YtbaajohjglhpfaaDoor.F
namespace Go.Proofs.YtbaajohjglhpfaaDoor.F
open Go Go.Shelf Go.RowKit Go.Proofs.YtbaajohjglhpfaaDoorW.PrintWords Go.Proofs.YtbaajohjglhpfaaDoorW.PrintLast Go.Proofs.YtbaajohjglhpfaaDoorW.PrintMore
attribute [local go_sem] max2_int min2_int max_two min_two max_three min_three max_four min_four   -- for this text's walks alone
set_option linter.unusedVariables false
set_option linter.unusedSimpArgs false

/-! ### laws_FnExactWithSerial: function 5 -/
def laws_FnExactWithSerial.f (k : Nat) (a0 : ByteArray) (a1 : Int) : Option (Bool) := if (a0.size : Int) > 1048576 then (some true) else ((spec_WithSerial.f k a0 a1).bind fun bt101 => ((impl_WithSerial.f k a0 a1).bind fun bt103 => (if bt103.1.toList = bt101.1.toList then (if bt103.2 = bt101.2 then (some true) else (some false)) else (some false))))
theorem laws_FnExactWithSerial.mono : ∀ a0 a1 k, LeO (laws_FnExactWithSerial.f k a0 a1) (laws_FnExactWithSerial.f (k + 1) a0 a1) := by
  intro a0 a1 k
  unfold laws_FnExactWithSerial.f
  repeat' first
      | (with_reducible exact impl_WithSerial.mono _ _ _)
      | (with_reducible exact spec_WithSerial.mono _ _ _)
      | (with_reducible exact LeO.refl _)
      | (with_reducible exact LeO.none _)
      | (with_reducible refine LeO.ite ?_ ?_)
      | (with_reducible refine LeO.bind ?_ (fun _ => ?_))
      | exact impl_WithSerial.mono _ _ _
      | exact spec_WithSerial.mono _ _ _
      | exact LeO.none _
      | refine LeO.ite ?_ ?_
      | refine LeO.bind ?_ (fun _ => ?_)
set_option maxHeartbeats 8000000 in
set_option maxRecDepth 100000 in
theorem laws_FnExactWithSerial.calls (k : Nat) (a0 : ByteArray) (a1 : Int) (r : Bool) (w : World) (h : laws_FnExactWithSerial.f k a0 a1 = some r) (hG : Glob w) :
    Calls Tryd.prog 5 #[.string a0, .int .i64 a1] w fun e w' => e = .returned (.bool r) ∧ Below w.heap.size w w' := by
  have HG := Aside0.mk hG
  clear hG
  have HB := Aside0.mk (Below.refl w.heap.size w)
  have H : (if (a0.size : Int) > 1048576 then (some true) else ((spec_WithSerial.f k a0 a1).bind fun bt101 => ((impl_WithSerial.f k a0 a1).bind fun bt103 => (if bt103.1.toList = bt101.1.toList then (if bt103.2 = bt101.2 then (some true) else (some false)) else (some false))))) = some r := h
  clear h
  by_cases c3 : (a0.size : Int) > 1048576
  · rw [if_pos c3] at H
    have c3b0 : decide (1048576 < (a0.size : Int)) = true := decide_eq_true c3
    have c3b1 : decide (1048576 < a0.size) = true := decide_eq_true (by omega)
    clear c3
    obtain rfl := Option.some.inj H
    go_enter Tryd.func5, Tryd.ntmps5
    go_wp2
    go_ret
    exact ⟨by first | rfl | (simp [errW_none, errW_some] <;> rfl) | (simp [*, errW_none, errW_some] <;> rfl), by repeat (first | (with_reducible first | exact HB.out | apply below_alloc | apply pw_below_drewN | apply below_drew1) | exact HB.out)⟩
  · rw [if_neg c3] at H
    have c3b0 : decide (1048576 < (a0.size : Int)) = false := decide_eq_false c3
    have c3b1 : decide (1048576 < a0.size) = false := decide_eq_false (by omega)
    clear c3
    replace H := Option.bind_eq_some_iff.mp H
    obtain ⟨⟨t101, t102⟩, A40, H⟩ := H
    replace H : ((impl_WithSerial.f k a0 a1).bind fun bt103 => (if bt103.1.toList = t101.toList then (if bt103.2 = t102 then (some true) else (some false)) else (some false))) = some r := H
    have A4 := Aside0.mk A40
    clear A40
    replace H := Option.bind_eq_some_iff.mp H
    obtain ⟨⟨t103, t104⟩, A50, H⟩ := H
    replace H : (if t103.toList = t101.toList then (if t104 = t102 then (some true) else (some false)) else (some false)) = some r := H
    have A5 := Aside0.mk A50
    clear A50
    by_cases c6 : t103.toList = t101.toList
    · rw [if_pos c6] at H
      have c6b0 : (t103.toList == t101.toList) = true := beq_iff_eq.mpr c6
      have c6b1 : (t103.toList != t101.toList) = false := bne_eq_false_iff_eq.mpr c6
      clear c6
      by_cases c7 : t104 = t102
      · rw [if_pos c7] at H
        have c7b0 : (t104 == t102) = true := beq_iff_eq.mpr c7
        have c7b1 : (t104 != t102) = false := bne_eq_false_iff_eq.mpr c7
        clear c7
        obtain rfl := Option.some.inj H
        go_enter Tryd.func5, Tryd.ntmps5
        go_wp2_with (first | ((with_reducible refine gate_callee (f := 13) rfl ?_); refine goesL_ (some 15) rfl rfl Tryd.func13 (by kernel_rfl) rfl #[.string a0, .int .i64 a1] rfl (by (try simp only [List.map_toArray, List.map_cons, List.map_nil]); first | done | rfl | (simp only [List.length_drop, List.length_take]; rfl)) ?_; (with_reducible refine (spec_WithSerial.calls k a0 a1 t101 t102 _ A4.out).mono ?_); rintro e w8 ⟨rfl, hb⟩; refine ⟨_, rfl, ?_⟩; have n0_ := Aside0.mk (below_step (by repeat (first | (with_reducible first | exact HB.out | apply below_alloc | apply pw_below_drewN | apply below_drew1) | exact HB.out)) hb); clear HB; have HB := n0_; clear n0_; (try clear hb); (try clear hb2); (try clear hk); (try clear hi)) | ((with_reducible refine gate_callee (f := 14) rfl ?_); refine goesL_ (some 21) rfl rfl Tryd.func14 (by kernel_rfl) rfl #[.string a0, .int .i64 a1] rfl (by (try simp only [List.map_toArray, List.map_cons, List.map_nil]); first | done | rfl | (simp only [List.length_drop, List.length_take]; rfl)) ?_; (with_reducible refine (impl_WithSerial.calls k a0 a1 t103 t104 _ A5.out (HG.out.below (by repeat (first | (with_reducible first | exact HB.out | apply below_alloc | apply pw_below_drewN | apply below_drew1) | exact HB.out)))).mono ?_); rintro e w9 ⟨rfl, hb⟩; refine ⟨_, rfl, ?_⟩; have n0_ := Aside0.mk (below_step (by repeat (first | (with_reducible first | exact HB.out | apply below_alloc | apply pw_below_drewN | apply below_drew1) | exact HB.out)) hb); clear HB; have HB := n0_; clear n0_; (try clear hb); (try clear hb2); (try clear hk); (try clear hi)))
        go_ret
        exact ⟨by first | rfl | (simp [errW_none, errW_some] <;> rfl) | (simp [*, errW_none, errW_some] <;> rfl), by repeat (first | (with_reducible first | exact HB.out | apply below_alloc | apply pw_below_drewN | apply below_drew1) | exact HB.out)⟩
      · rw [if_neg c7] at H
        have c7b0 : (t104 == t102) = false := beq_eq_false_iff_ne.mpr c7
        have c7b1 : (t104 != t102) = true := bne_iff_ne.mpr c7
        obtain rfl := Option.some.inj H
        go_enter Tryd.func5, Tryd.ntmps5
        go_wp2_with (first | ((with_reducible refine gate_callee (f := 13) rfl ?_); refine goesL_ (some 15) rfl rfl Tryd.func13 (by kernel_rfl) rfl #[.string a0, .int .i64 a1] rfl (by (try simp only [List.map_toArray, List.map_cons, List.map_nil]); first | done | rfl | (simp only [List.length_drop, List.length_take]; rfl)) ?_; (with_reducible refine (spec_WithSerial.calls k a0 a1 t101 t102 _ A4.out).mono ?_); rintro e w10 ⟨rfl, hb⟩; refine ⟨_, rfl, ?_⟩; have n0_ := Aside0.mk (below_step (by repeat (first | (with_reducible first | exact HB.out | apply below_alloc | apply pw_below_drewN | apply below_drew1) | exact HB.out)) hb); clear HB; have HB := n0_; clear n0_; (try clear hb); (try clear hb2); (try clear hk); (try clear hi)) | ((with_reducible refine gate_callee (f := 14) rfl ?_); refine goesL_ (some 21) rfl rfl Tryd.func14 (by kernel_rfl) rfl #[.string a0, .int .i64 a1] rfl (by (try simp only [List.map_toArray, List.map_cons, List.map_nil]); first | done | rfl | (simp only [List.length_drop, List.length_take]; rfl)) ?_; (with_reducible refine (impl_WithSerial.calls k a0 a1 t103 t104 _ A5.out (HG.out.below (by repeat (first | (with_reducible first | exact HB.out | apply below_alloc | apply pw_below_drewN | apply below_drew1) | exact HB.out)))).mono ?_); rintro e w11 ⟨rfl, hb⟩; refine ⟨_, rfl, ?_⟩; have n0_ := Aside0.mk (below_step (by repeat (first | (with_reducible first | exact HB.out | apply below_alloc | apply pw_below_drewN | apply below_drew1) | exact HB.out)) hb); clear HB; have HB := n0_; clear n0_; (try clear hb); (try clear hb2); (try clear hk); (try clear hi)))
        go_ret
        exact ⟨by first | rfl | (simp [errW_none, errW_some] <;> rfl) | (simp [*, errW_none, errW_some] <;> rfl), by repeat (first | (with_reducible first | exact HB.out | apply below_alloc | apply pw_below_drewN | apply below_drew1) | exact HB.out)⟩
    · rw [if_neg c6] at H
      have c6b0 : (t103.toList == t101.toList) = false := beq_eq_false_iff_ne.mpr c6
      have c6b1 : (t103.toList != t101.toList) = true := bne_iff_ne.mpr c6
      obtain rfl := Option.some.inj H
      go_enter Tryd.func5, Tryd.ntmps5
      go_wp2_with (first | ((with_reducible refine gate_callee (f := 13) rfl ?_); refine goesL_ (some 15) rfl rfl Tryd.func13 (by kernel_rfl) rfl #[.string a0, .int .i64 a1] rfl (by (try simp only [List.map_toArray, List.map_cons, List.map_nil]); first | done | rfl | (simp only [List.length_drop, List.length_take]; rfl)) ?_; (with_reducible refine (spec_WithSerial.calls k a0 a1 t101 t102 _ A4.out).mono ?_); rintro e w12 ⟨rfl, hb⟩; refine ⟨_, rfl, ?_⟩; have n0_ := Aside0.mk (below_step (by repeat (first | (with_reducible first | exact HB.out | apply below_alloc | apply pw_below_drewN | apply below_drew1) | exact HB.out)) hb); clear HB; have HB := n0_; clear n0_; (try clear hb); (try clear hb2); (try clear hk); (try clear hi)) | ((with_reducible refine gate_callee (f := 14) rfl ?_); refine goesL_ (some 21) rfl rfl Tryd.func14 (by kernel_rfl) rfl #[.string a0, .int .i64 a1] rfl (by (try simp only [List.map_toArray, List.map_cons, List.map_nil]); first | done | rfl | (simp only [List.length_drop, List.length_take]; rfl)) ?_; (with_reducible refine (impl_WithSerial.calls k a0 a1 t103 t104 _ A5.out (HG.out.below (by repeat (first | (with_reducible first | exact HB.out | apply below_alloc | apply pw_below_drewN | apply below_drew1) | exact HB.out)))).mono ?_); rintro e w13 ⟨rfl, hb⟩; refine ⟨_, rfl, ?_⟩; have n0_ := Aside0.mk (below_step (by repeat (first | (with_reducible first | exact HB.out | apply below_alloc | apply pw_below_drewN | apply below_drew1) | exact HB.out)) hb); clear HB; have HB := n0_; clear n0_; (try clear hb); (try clear hb2); (try clear hk); (try clear hi)))
      go_ret
      exact ⟨by first | rfl | (simp [errW_none, errW_some] <;> rfl) | (simp [*, errW_none, errW_some] <;> rfl), by repeat (first | (with_reducible first | exact HB.out | apply below_alloc | apply pw_below_drewN | apply below_drew1) | exact HB.out)⟩

/-- THE ONE PURE STATEMENT of laws_FnExactWithSerial: yours. -/
def laws_FnExactWithSerial.Pure : Prop := ∀ (a0 : ByteArray) (a1 : Int), a0.size ≤ 140737488351232 → (Lit.int .i64 a1).wf = true → ∃ k, laws_FnExactWithSerial.f k a0 a1 = some true
theorem laws_FnExactWithSerial.walk (P : laws_FnExactWithSerial.Pure) (a0 : ByteArray) (a1 : Int) (w : World) (w0 : a0.size ≤ 140737488351232) (w1 : (Lit.int .i64 a1).wf = true) (hG : Glob w) :
    Calls Tryd.prog 5 #[.string a0, .int .i64 a1] w fun e w' => e = .returned (.bool true) ∧ Below w.heap.size w w' := by
  obtain ⟨k, h⟩ := P a0 a1 w0 w1
  refine (laws_FnExactWithSerial.calls k a0 a1 true w h hG).mono ?_
  rintro e w' ⟨rfl, hd⟩
  exact ⟨rfl, hd⟩

end Go.Proofs.YtbaajohjglhpfaaDoor.F
namespace Go.Proofs.YtbaajohjglhpfaaDoor.Base
open Go.RowKit Go.Proofs.YtbaajohjglhpfaaDoorW.PrintWords Go.Proofs.YtbaajohjglhpfaaDoorW.PrintMore

theorem w64 {x : Int} (h0 : -9223372036854775808 ≤ x) (h1 : x ≤ 9223372036854775807) : wrap64 x = x := by
  unfold wrap64
  omega

def L (s : ByteArray) : List UInt8 := s.data.toList
def B (l : List UInt8) : ByteArray := ⟨l.toArray⟩
theorem L_B (l : List UInt8) : L (B l) = l := by simp [L, B]
theorem B_L (s : ByteArray) : B (L s) = s := by simp [L, B]
theorem L_inj {a b : ByteArray} (h : L a = L b) : a = b := by rw [← B_L a, ← B_L b, h]
theorem L_iff {a b : ByteArray} : L a = L b ↔ a = b := ⟨L_inj, fun h => by rw [h]⟩
theorem size_L (s : ByteArray) : s.size = (L s).length := by simp [L]
theorem toL (s : ByteArray) : s.toList = L s := Lib.toList_data s
theorem L_extract (s : ByteArray) (i j : Nat) : L (s.extract i j) = ((L s).drop i).take (j - i) := by
  simp [L, ByteArray.data_extract]
theorem L_append (a b : ByteArray) : L (a ++ b) = L a ++ L b := by
  simp [L, ByteArray.data_append]
theorem bt_L (s : ByteArray) (i : Int) : bt s i = (((L s).getD i.toNat 0).toNat : Int) := by
  unfold bt
  split
  · rename_i h
    have h' : i.toNat < (L s).length := by rw [← size_L]; exact h
    rw [List.getD_eq_getElem?_getD, List.getElem?_eq_getElem h']
    rfl
  · rename_i h
    have h' : (L s).length ≤ i.toNat := by rw [← size_L]; omega
    rw [List.getD_eq_getElem?_getD, List.getElem?_eq_none h']
    rfl
theorem bt_mid {x : ByteArray} {p : List UInt8} {c : UInt8} {r : List UInt8} (h : L x = p ++ c :: r) {i : Int} (hi : i = (p.length : Int)) : bt x i = (c.toNat : Int) := by
  rw [bt_L, h, hi]
  simp [List.getD_eq_getElem?_getD]
theorem bt_cons {x : ByteArray} {c : UInt8} {r : List UInt8} (h : L x = c :: r) : bt x 0 = (c.toNat : Int) := bt_mid (p := []) h rfl
theorem L_strOfNums (xs : List Int) : L (strOfNums xs) = xs.map fun n => UInt8.ofNat n.toNat := by simp [L, strOfNums]
theorem byte_le (c : UInt8) : (c.toNat : Int) ≤ 255 := by have := c.toNat_lt; omega
theorem byte_id (c : UInt8) : UInt8.ofNat ((c.toNat : Int)).toNat = c := by simp

theorem drop_len {α : Type} (p t : List α) (k : Nat) : (p ++ t).drop (p.length + k) = t.drop k := by
  rw [List.drop_append, List.drop_eq_nil_of_le (by omega), List.nil_append, Nat.add_sub_cancel_left]
theorem getD_len {α : Type} (p t : List α) (k : Nat) (d : α) : (p ++ t).getD (p.length + k) d = t.getD k d := by
  simp [List.getD_eq_getElem?_getD, List.getElem?_append_right]

/-- The labels of a name's bytes; none: they are no name (but for the limit on the whole). -/
def labs : List UInt8 → Option (List ByteArray)
  | [] => none
  | c :: r => if c.toNat = 0 then (if r = [] then some [] else none) else if 63 < c.toNat then none else if r.length < c.toNat then none else (labs (r.drop c.toNat)).map (B (r.take c.toNat) :: ·)
  termination_by l => l.length
  decreasing_by simp; omega

/-- The labels of a name. -/
def names (l : List UInt8) : Option (List ByteArray) := if l.length < 1 ∨ 255 < l.length then none else labs l

/-- What a cut in labels answers that had come to some. -/
def res (acc : List ByteArray) : Option (List ByteArray) → List ByteArray × Bool
  | none => ([], false)
  | some ls => (acc ++ ls, true)
theorem res_map (acc : List ByteArray) (b : ByteArray) (o : Option (List ByteArray)) : res acc (o.map (b :: ·)) = res (acc ++ [b]) o := by
  cases o <;> simp [res]

/-- What the other cut in labels leaves where it fails. -/
def jk (acc : List ByteArray) : List UInt8 → List ByteArray
  | [] => []
  | c :: r => if c.toNat = 0 then acc else if 63 < c.toNat then [] else if r.length < c.toNat then [] else jk (acc ++ [B (r.take c.toNat)]) (r.drop c.toNat)
  termination_by l => l.length
  decreasing_by simp; omega
def res2 (acc : List ByteArray) (l : List UInt8) : List ByteArray × Bool := match labs l with
  | none => (jk acc l, false)
  | some ls => (acc ++ ls, true)
theorem labs_count : ∀ (n : Nat) (l : List UInt8), l.length ≤ n → ∀ ls, labs l = some ls → ls.length + 1 ≤ l.length := by
  intro n
  induction n with
  | zero =>
    intro l hl ls h
    obtain rfl : l = [] := List.length_eq_zero_iff.1 (by omega)
    simp [labs] at h
  | succ n ih =>
    intro l hl ls h
    cases l with
    | nil => simp [labs] at h
    | cons c r =>
      simp only [List.length_cons] at hl ⊢
      rw [labs] at h
      by_cases h0 : c.toNat = 0
      · rw [if_pos h0] at h
        by_cases hr : r = []
        · rw [if_pos hr] at h
          obtain rfl := Option.some.inj h
          simp
        · rw [if_neg hr] at h
          cases h
      · rw [if_neg h0] at h
        by_cases h63 : 63 < c.toNat
        · rw [if_pos h63] at h
          cases h
        · rw [if_neg h63] at h
          by_cases hl2 : r.length < c.toNat
          · rw [if_pos hl2] at h
            cases h
          · rw [if_neg hl2] at h
            obtain ⟨t, ht, rfl⟩ := Option.map_eq_some_iff.1 h
            have := ih (r.drop c.toNat) (by simp; omega) t ht
            simp at this ⊢
            omega
theorem names_count {l : List UInt8} {ls : List ByteArray} (h : names l = some ls) : ls.length ≤ 254 := by
  unfold names at h
  split at h
  · cases h
  · have := labs_count _ l (Nat.le_refl _) ls h
    omega
end Go.Proofs.YtbaajohjglhpfaaDoor.Base
namespace Go.Proofs.YtbaajohjglhpfaaDoor.Base
open Go.RowKit Go.Proofs.YtbaajohjglhpfaaDoorW.PrintWords Go.Proofs.YtbaajohjglhpfaaDoorW.PrintLast
/-- How many bytes the name has with which the bytes begin, found from a position on; 0: none. -/
def nmP (x : List UInt8) : Nat → Nat → Nat
  | 0, _ => 0
  | d + 1, p => match x.drop p with
    | [] => 0
    | c :: _ => if c.toNat = 0 then (if 255 < p + 1 then 0 else p + 1) else if 63 < c.toNat then 0 else nmP x d (p + 1 + c.toNat)
theorem drop_at {x : List UInt8} {p : Nat} (h : p < x.length) : x.drop p = x[p] :: x.drop (p + 1) := List.drop_eq_getElem_cons h
theorem bt_get {x : ByteArray} {p : Nat} (h : p < (L x).length) : bt x (p : Int) = (((L x)[p]).toNat : Int) := by
  rw [bt_L, Int.toNat_natCast, List.getD_eq_getElem?_getD, List.getElem?_eq_getElem h]
  rfl
theorem nmP_big (x : List UInt8) : ∀ (d p : Nat), 255 ≤ p → nmP x d p = 0 := by
  intro d
  induction d with
  | zero => intro p _; rfl
  | succ d ih =>
    intro p hp
    rw [nmP]
    split
    · rfl
    · split
      · rw [if_pos (by omega)]
      · split
        · rfl
        · exact ih _ (by omega)
theorem nmP_le (x : List UInt8) : ∀ (d p : Nat), nmP x d p ≤ x.length ∧ nmP x d p ≤ 255 := by
  intro d
  induction d with
  | zero => intro p; exact ⟨Nat.zero_le _, Nat.zero_le _⟩
  | succ d ih =>
    intro p
    rw [nmP]
    split
    · exact ⟨Nat.zero_le _, Nat.zero_le _⟩
    · rename_i c r h
      split
      · split
        · exact ⟨Nat.zero_le _, Nat.zero_le _⟩
        · refine ⟨?_, by omega⟩
          have : (x.drop p).length ≥ 1 := by rw [h]; simp
          rw [List.length_drop] at this
          omega
      · split
        · exact ⟨Nat.zero_le _, Nat.zero_le _⟩
        · exact ih _
/-- The name's length at the beginning. -/
def nm (x : List UInt8) : Nat := nmP x (x.length + 1) 0
/-- The short text's length at the beginning; 0: none. -/
def tx : List UInt8 → Nat
  | [] => 0
  | c :: r => if r.length < c.toNat then 0 else c.toNat + 1
theorem nmP_gt (x : List UInt8) : ∀ (d p : Nat), nmP x d p ≠ 0 → p < nmP x d p := by
  intro d
  induction d with
  | zero => intro p h; exact absurd rfl h
  | succ d ih =>
    intro p h
    cases hx : x.drop p with
    | nil => rw [nmP, hx] at h; exact absurd rfl h
    | cons c r =>
      rw [nmP, hx] at h ⊢
      dsimp only at h ⊢
      by_cases h0 : c.toNat = 0
      · rw [if_pos h0] at h ⊢
        by_cases h1 : 255 < p + 1
        · rw [if_pos h1] at h; exact absurd rfl h
        · rw [if_neg h1]
          omega
      · rw [if_neg h0] at h ⊢
        by_cases h1 : 63 < c.toNat
        · rw [if_pos h1] at h; exact absurd rfl h
        · rw [if_neg h1] at h ⊢
          have := ih _ h
          omega
theorem nmP_labs (x : List UInt8) : ∀ (d p : Nat), nmP x d p ≠ 0 → ∃ ls, labs ((x.drop p).take (nmP x d p - p)) = some ls := by
  intro d
  induction d with
  | zero => intro p h; exact absurd rfl h
  | succ d ih =>
    intro p h
    have hle := (nmP_le x (d + 1) p).1
    cases hx : x.drop p with
    | nil => rw [nmP, hx] at h; exact absurd rfl h
    | cons c r =>
      rw [nmP, hx] at h hle ⊢
      dsimp only at h hle ⊢
      by_cases h0 : c.toNat = 0
      · rw [if_pos h0] at h hle ⊢
        by_cases h1 : 255 < p + 1
        · rw [if_pos h1] at h; exact absurd rfl h
        · rw [if_neg h1, show p + 1 - p = 1 from by omega]
          exact ⟨[], by rw [List.take_succ_cons, List.take_zero, labs, if_pos h0, if_pos rfl]⟩
      · rw [if_neg h0] at h hle ⊢
        by_cases h1 : 63 < c.toNat
        · rw [if_pos h1] at h; exact absurd rfl h
        · rw [if_neg h1] at h hle ⊢
          have hgt := nmP_gt x d _ h
          obtain ⟨ls, hls⟩ := ih _ h
          have hr : x.drop (p + 1) = r := by rw [← List.drop_drop, hx]; rfl
          have hrl : r.length = x.length - (p + 1) := by rw [← hr, List.length_drop]
          generalize nmP x d (p + 1 + c.toNat) = n at *
          rw [show n - p = (n - p - 1) + 1 from by omega, List.take_succ_cons, labs, if_neg h0, if_neg h1, if_neg (by rw [List.length_take]; omega)]
          have e : (r.take (n - p - 1)).drop c.toNat = (x.drop (p + 1 + c.toNat)).take (n - (p + 1 + c.toNat)) := by
            rw [List.drop_take, ← List.drop_drop, hr]
            congr 1
            omega
          rw [e, hls]
          exact ⟨_, rfl⟩
theorem nm_names (x : List UInt8) (h : nm x ≠ 0) : (names (x.take (nm x))).isSome = true := by
  have h1 := nmP_le x (x.length + 1) 0
  obtain ⟨ls, hl⟩ := nmP_labs x (x.length + 1) 0 h
  unfold nm at h ⊢
  rw [List.drop_zero, Nat.sub_zero] at hl
  unfold names
  rw [List.length_take, Nat.min_eq_left h1.1, if_neg (by omega), hl]
  rfl
theorem toList_nil (x : ByteArray) : (x.toList = []) ↔ L x = [] := by rw [toL]
end Go.Proofs.YtbaajohjglhpfaaDoor.Base
namespace Go.Proofs.YtbaajohjglhpfaaDoor.Base
open Go Go.RowKit Go.Proofs.YtbaajohjglhpfaaDoorW.PrintWords Go.Proofs.YtbaajohjglhpfaaDoorW.PrintMore

theorem wrap_u64 (n : Int) : IntKind.u64.wrap n = n % 18446744073709551616 := by simp [IntKind.wrap, IntKind.bits, IntKind.signed]
theorem u8_and1 (x : Int) (h0 : 0 ≤ x) (h1 : x < 256) : bits .and .u8 x 1 = x % 2 := bits_mask .u8 8 (by decide) wraps_u8 1 (by decide) x h0 h1
theorem bit_iff (c : UInt8) (n : Nat) (hn : n ≤ 7) (s : Int) (hs : s = (n : Int)) : (bits .and .u8 (shr .u8 (c.toNat : Int) s) 1 = 1) ↔ (c.toNat / 2 ^ n) % 2 = 1 := by
  subst hs
  have hc := byte_le c
  have e : shr .u8 (c.toNat : Int) (n : Int) = ((c.toNat / 2 ^ n : Nat) : Int) := by
    unfold shr
    rw [Int.toNat_natCast, Nat.min_eq_left (by simp only [IntKind.bits]; omega)]
    simp
  have hle : c.toNat / 2 ^ n ≤ c.toNat := Nat.div_le_self _ _
  rw [e]
  generalize c.toNat / 2 ^ n = q at hle ⊢
  rw [u8_and1 _ (by omega) (by omega)]
  omega

/-- Bit i of a row of bytes, the first byte's highest first. -/
def bitAt (b : List UInt8) (i : Nat) : Bool := decide (((b.getD (i / 8) 0).toNat / 2 ^ (7 - i % 8)) % 2 = 1)
/-- The types of a block: those of n bits from lo on. -/
def blk (w : Nat) (b : List UInt8) : Nat → Nat → List Int
  | _, 0 => []
  | lo, n + 1 => (if bitAt b lo = true then [256 * (w : Int) + (lo : Int)] else []) ++ blk w b (lo + 1) n
theorem blk_length (w : Nat) (b : List UInt8) : ∀ n lo, (blk w b lo n).length ≤ n := by
  intro n
  induction n with
  | zero => intro lo; simp [blk]
  | succ n ih =>
    intro lo
    have := ih (lo + 1)
    unfold blk
    split <;> simp <;> omega
theorem blk_add (w : Nat) (b : List UInt8) : ∀ m n lo, blk w b lo (m + n) = blk w b lo m ++ blk w b (lo + m) n := by
  intro m
  induction m with
  | zero => intro n lo; simp [blk]
  | succ m ih =>
    intro n lo
    rw [show m + 1 + n = (m + n) + 1 from by omega]
    rw [blk, blk, ih n (lo + 1), show lo + 1 + m = lo + (m + 1) from by omega, List.append_assoc]
/-- The types of a map whose blocks are above last; none: it is no map. -/
def tmap (last : Int) : List UInt8 → Option (List Int)
  | [] => some []
  | [_] => none
  | w :: n :: r => if (w.toNat : Int) ≤ last then none else if n.toNat < 1 then none else if 32 < n.toNat then none else if r.length < n.toNat then none else if (r.getD (n.toNat - 1) 0).toNat = 0 then none else (tmap (w.toNat : Int) (r.drop n.toNat)).map (blk w.toNat r 0 (8 * n.toNat) ++ ·)
  termination_by l => l.length
  decreasing_by simp; omega
theorem tmap_length : ∀ (N : Nat) (l : List UInt8) (last : Int) (ts : List Int), l.length ≤ N → tmap last l = some ts → ts.length ≤ 8 * l.length := by
  intro N
  induction N with
  | zero =>
    intro l last ts hl h
    obtain rfl : l = [] := List.length_eq_zero_iff.1 (by omega)
    simp [tmap] at h
    subst h
    simp
  | succ N ih =>
    intro l last ts hl h
    match l, hl, h with
    | [], hl, h => simp [tmap] at h; subst h; simp
    | [_], hl, h => simp [tmap] at h
    | w :: n :: r, hl, h =>
      simp only [List.length_cons] at hl ⊢
      rw [tmap] at h
      repeat' (split at h; · cases h)
      obtain ⟨t, ht, rfl⟩ := Option.map_eq_some_iff.1 h
      have h1 := ih (r.drop n.toNat) _ t (by simp; omega) ht
      have h2 := blk_length w.toNat r (8 * n.toNat) 0
      simp at h1 ⊢
      omega
def mres (acc : List Int) : Option (List Int) → List Int × Int
  | none => ([], 7)
  | some t => (acc ++ t, 0)
theorem mres_map (acc t : List Int) (o : Option (List Int)) : mres acc (o.map (t ++ ·)) = mres (acc ++ t) o := by
  cases o <;> simp [mres]
end Go.Proofs.YtbaajohjglhpfaaDoor.Base
namespace Go.Proofs.YtbaajohjglhpfaaDoor.Base
open Go.RowKit Go.Proofs.YtbaajohjglhpfaaDoorW.PrintWords Go.Proofs.YtbaajohjglhpfaaDoorW.PrintLast
def alnum (c : UInt8) : Bool := (decide (48 ≤ c.toNat) && decide (c.toNat ≤ 57)) || ((decide (97 ≤ c.toNat) && decide (c.toNat ≤ 122)) || (decide (65 ≤ c.toNat) && decide (c.toNat ≤ 90)))
/-- Short texts, one behind another, to the very end. -/
def exact : Nat → List UInt8 → Bool
  | _, [] => true
  | 0, _ => false
  | d + 1, c :: r => if r.length < c.toNat then false else exact d (r.drop c.toNat)
/-- What a letter of the program's forms takes. -/
def con (c : Nat) (l : List UInt8) : Option Nat :=
  if c = 49 then (if l.length < 1 then none else some 1) else if c = 50 then (if l.length < 2 then none else some 2) else if c = 52 ∨ c = 103 ∨ c = 113 then (if l.length < 4 then none else some 4)
  else if c = 110 then (if nm l = 0 then none else some (nm l)) else if c = 116 then (if tx l = 0 then none else some (tx l))
  else if c = 99 then (if tx l < 2 ∨ 16 < tx l then none else if ((l.take (tx l)).drop 1).all alnum then some (tx l) else none)
  else if c = 84 then (if l = [] then none else if exact l.length l then some l.length else none)
  else if c = 109 then (if (tmap (-1) l).isSome then some l.length else none) else if c = 42 then some l.length else none
def pg : List UInt8 → List UInt8 → Bool
  | [], l => l.isEmpty
  | c :: r, l => match con c.toNat l with | none => false | some n => pg r (l.drop n)
/-- The stretches that the names take, by the program's forms. -/
def psp : List UInt8 → Nat → List UInt8 → List (Nat × Nat)
  | [], _, _ => []
  | c :: r, p, l => match con c.toNat l with
    | none => []
    | some n => (if c.toNat = 110 then [(p, p + n)] else []) ++ psp r (p + n) (l.drop n)
def letters (l : List UInt8) : Prop := ∀ c ∈ l, c.toNat ∈ [49, 50, 52, 103, 113, 110, 116, 99, 84, 109, 42]
theorem tx_le (l : List UInt8) : tx l ≤ l.length := by
  cases l with
  | nil => exact Nat.zero_le _
  | cons c r => rw [tx]; split <;> simp <;> omega
theorem nm_le (l : List UInt8) : nm l ≤ l.length := (nmP_le l _ _).1
end Go.Proofs.YtbaajohjglhpfaaDoor.Base
namespace Go.Proofs.YtbaajohjglhpfaaDoor.Base
open Go.RowKit Go.Proofs.YtbaajohjglhpfaaDoorW.PrintWords Go.Proofs.YtbaajohjglhpfaaDoorW.PrintLast
/-- The number of some bytes behind a number. -/
def num (n : Int) : List UInt8 → Int
  | [] => n
  | c :: r => num (n * 256 + c.toNat) r
theorem list12 {α : Type} {l : List α} (h : l.length = 12) : ∃ c0 c1 c2 c3 c4 c5 c6 c7 c8 c9 c10 c11, l = [c0, c1, c2, c3, c4, c5, c6, c7, c8, c9, c10, c11] := by
  match l, h with
  | [c0, c1, c2, c3, c4, c5, c6, c7, c8, c9, c10, c11], _ => exact ⟨_, _, _, _, _, _, _, _, _, _, _, _, rfl⟩
end Go.Proofs.YtbaajohjglhpfaaDoor.Base
namespace Go.Proofs.YtbaajohjglhpfaaDoor.Pure
open Go.RowKit Go.Proofs.YtbaajohjglhpfaaDoor.F Go.Proofs.YtbaajohjglhpfaaDoor.Base Go.Proofs.YtbaajohjglhpfaaDoorW.PrintWords Go.Proofs.YtbaajohjglhpfaaDoorW.PrintLast Go.Proofs.YtbaajohjglhpfaaDoorW.PrintMore
set_option linter.unusedVariables false
set_option linter.unusedSimpArgs false
-- base: BaseMap
theorem impl_MapTypes_l2 (x : ByteArray) (w n : UInt8) (p r : List UInt8) (hx : L x = p ++ w :: n :: r) (hp : p.length ≤ 10000000) (h3 : n.toNat ≤ 32) (h4 : n.toNat ≤ r.length) (last kk : Nat) (hkk : kk < n.toNat) (m : Nat) : ∀ (d j : Nat) (acc : List Int), j + d = 8 → acc.length + d ≤ 100000000 → impl_MapTypes.l2 (d + 1 + m) x acc (last : Int) (p.length : Int) (w.toNat : Int) (n.toNat : Int) (kk : Int) (j : Int) = impl_MapTypes.l1 m x (acc ++ blk w.toNat r (8 * kk + j) d) (last : Int) (p.length : Int) (w.toNat : Int) (n.toNat : Int) ((kk + 1 : Nat) : Int) := by
  have hs := size_L x
  rw [hx] at hs
  simp only [List.length_append, List.length_cons] at hs
  have hw := byte_le w
  intro d
  induction d with
  | zero =>
    intro j acc hj hb
    rw [show 0 + 1 + m = m + 1 from by omega]
    simp only [impl_MapTypes.l2]
    rw [if_neg (by omega), w64 (by omega) (by omega)]
    simp [blk]
  | succ d ih =>
    intro j acc hj hb
    rw [show d + 1 + 1 + m = (d + 1 + m) + 1 from by omega]
    simp only [impl_MapTypes.l2]
    rw [if_pos (by omega)]
    simp (maxSteps := 10000000) (disch := omega) only [w64]
    rw [if_pos (by omega), if_pos (by omega), if_pos (by omega)]
    have b2 : bt x ((p.length : Int) + 2 + (kk : Int)) = ((r.getD kk 0).toNat : Int) := by
      rw [bt_L, hx, show ((p.length : Int) + 2 + (kk : Int)).toNat = p.length + (kk + 2) from by omega, getD_len]
      simp [List.getD_eq_getElem?_getD]
    rw [b2]
    have hbit := bit_iff (r.getD kk 0) (7 - j) (by omega) (7 - (j : Int)) (by omega)
    have e8 : (8 * kk + j) / 8 = kk := by omega
    have e8' : (8 * kk + j) % 8 = j := by omega
    rw [blk]
    by_cases hB : bitAt r (8 * kk + j) = true
    · have hB' : ((r.getD kk 0).toNat / 2 ^ (7 - j)) % 2 = 1 := by unfold bitAt at hB; rw [e8, e8'] at hB; exact of_decide_eq_true hB
      rw [if_pos (hbit.2 hB'), if_pos (by omega), if_pos hB]
      have := ih (j + 1) (acc ++ [256 * (w.toNat : Int) + ((8 * kk + j : Nat) : Int)]) (by omega) (by simp; omega)
      rw [show ((j + 1 : Nat) : Int) = (j : Int) + 1 from by omega, List.append_assoc, show 8 * kk + (j + 1) = 8 * kk + j + 1 from by omega] at this
      rw [← this, show 256 * (w.toNat : Int) + ((8 * kk + j : Nat) : Int) = 256 * (w.toNat : Int) + 8 * (kk : Int) + (j : Int) from by omega]
    · have hB' : ¬ ((r.getD kk 0).toNat / 2 ^ (7 - j)) % 2 = 1 := by unfold bitAt at hB; rw [e8, e8'] at hB; simpa using hB
      rw [if_neg (fun h => hB' (hbit.1 h)), if_neg hB]
      have := ih (j + 1) acc (by omega) (by omega)
      rw [show ((j + 1 : Nat) : Int) = (j : Int) + 1 from by omega, show 8 * kk + (j + 1) = 8 * kk + j + 1 from by omega] at this
      rw [this, List.nil_append]
theorem impl_MapTypes_l1 (x : ByteArray) (w n : UInt8) (p r : List UInt8) (hx : L x = p ++ w :: n :: r) (hp : p.length ≤ 10000000) (h3 : n.toNat ≤ 32) (h4 : n.toNat ≤ r.length) (last : Nat) (m : Nat) : ∀ (d kk : Nat) (acc : List Int), kk + d = n.toNat → acc.length + 8 * d ≤ 100000000 → impl_MapTypes.l1 (10 * d + 1 + m) x acc (last : Int) (p.length : Int) (w.toNat : Int) (n.toNat : Int) (kk : Int) = impl_MapTypes.l0 m x (acc ++ blk w.toNat r (8 * kk) (8 * d)) (last : Int) ((p.length + 2 + n.toNat : Nat) : Int) := by
  intro d
  induction d with
  | zero =>
    intro kk acc hk hb
    rw [show 10 * 0 + 1 + m = m + 1 from by omega]
    simp only [impl_MapTypes.l1]
    rw [if_neg (by omega)]
    simp (maxSteps := 10000000) (disch := omega) only [w64]
    simp only [Nat.mul_zero, blk, List.append_nil]
    rw [show (p.length : Int) + (2 + (n.toNat : Int)) = ((p.length + 2 + n.toNat : Nat) : Int) from by omega]
  | succ d ih =>
    intro kk acc hk hb
    rw [show 10 * (d + 1) + 1 + m = (8 + 1 + (10 * d + 1 + m)) + 1 from by omega]
    simp only [impl_MapTypes.l1]
    rw [if_pos (by omega)]
    have h2 := impl_MapTypes_l2 x w n p r hx hp h3 h4 last kk (by omega) (10 * d + 1 + m) 8 0 acc (by omega) (by omega)
    rw [show ((0 : Nat) : Int) = 0 from rfl] at h2
    have hl := blk_length w.toNat r 8 (8 * kk + 0)
    rw [h2, ih (kk + 1) _ (by omega) (by simp only [List.length_append]; omega), List.append_assoc, show 8 * (d + 1) = 8 + 8 * d from by omega, blk_add, show 8 * (kk + 1) = 8 * kk + 8 from by omega, Nat.add_zero]
theorem impl_MapTypes_l0 (x : ByteArray) (hx0 : x.size ≤ 1048576) : ∀ (N k : Nat) (acc : List Int) (last : Int) (p r : List UInt8), L x = p ++ r → r.length ≤ N → 400 * N < k → acc.length + 8 * r.length ≤ 90000000 → impl_MapTypes.l0 k x acc last (p.length : Int) = some (mres acc (tmap last r)) := by
  intro N
  induction N with
  | zero =>
    intro k acc last p r hx hn hk hb
    obtain ⟨k, rfl⟩ : ∃ m, k = m + 1 := ⟨k - 1, by omega⟩
    obtain rfl : r = [] := List.length_eq_zero_iff.1 (by omega)
    have hs := size_L x
    rw [hx] at hs
    simp only [List.append_nil] at hs
    simp only [impl_MapTypes.l0]
    rw [if_neg (by omega)]
    simp [tmap, mres]
  | succ N ih =>
    intro k acc last p r hx hn hk hb
    obtain ⟨k, rfl⟩ : ∃ m, k = m + 1 := ⟨k - 1, by omega⟩
    have hs := size_L x
    rw [hx] at hs
    simp only [impl_MapTypes.l0]
    match r, hx, hs, hn, hb with
    | [], hx, hs, hn, hb =>
      simp only [List.append_nil] at hs
      rw [if_neg (by omega)]
      simp [tmap, mres]
    | [c], hx, hs, hn, hb =>
      simp only [List.length_append, List.length_cons, List.length_nil] at hs
      rw [if_pos (by omega), w64 (by omega) (by omega), if_pos (by omega)]
      simp [tmap, mres]
    | w :: n :: r, hx, hs, hn, hb =>
      simp only [List.length_append, List.length_cons] at hs hn hb
      have hw := byte_le w
      have hnb := byte_le n
      have b0 : bt x (p.length : Int) = (w.toNat : Int) := bt_mid hx rfl
      have b1 : bt x ((p.length : Int) + 1) = (n.toNat : Int) := bt_mid (p := p ++ [w]) (c := n) (r := r) (by rw [hx]; simp) (by simp)
      rw [if_pos (by omega)]
      simp (maxSteps := 10000000) (disch := omega) only [w64]
      rw [if_neg (by omega), if_pos (by omega), if_pos (by omega), if_pos (by omega), b0, b1]
      rw [tmap]
      obtain ⟨k, rfl⟩ : ∃ m, k = m + 1 := ⟨k - 1, by omega⟩
      simp only [impl_MapTypes.j1, if_true]
      by_cases h1 : (w.toNat : Int) ≤ last
      · rw [if_pos h1, if_pos h1]; rfl
      rw [if_neg h1, if_neg h1]
      by_cases h2 : n.toNat < 1
      · rw [if_pos (by omega), if_pos h2]; rfl
      rw [if_neg (by omega), if_neg h2]
      by_cases h3 : 32 < n.toNat
      · rw [if_pos (by omega), if_pos h3]; rfl
      rw [if_neg (by omega), if_neg h3]
      by_cases h4 : r.length < n.toNat
      · rw [if_pos (by omega), if_pos h4]; rfl
      rw [if_neg (by omega), if_neg h4, if_pos (by omega), if_pos (by omega)]
      have b2 : bt x ((p.length : Int) + 1 + (n.toNat : Int)) = ((r.getD (n.toNat - 1) 0).toNat : Int) := by
        rw [bt_L, hx, show ((p.length : Int) + 1 + (n.toNat : Int)).toNat = p.length + (n.toNat - 1 + 2) from by omega, getD_len]
        simp [List.getD_eq_getElem?_getD]
      rw [b2]
      by_cases h5 : (r.getD (n.toNat - 1) 0).toNat = 0
      · rw [if_pos (by rw [beq_iff_eq]; omega), if_pos h5]; rfl
      rw [if_neg (by rw [beq_iff_eq]; omega), if_neg h5]
      obtain ⟨m, rfl⟩ : ∃ m, k = 10 * n.toNat + 1 + m := ⟨k - (10 * n.toNat + 1), by omega⟩
      have hl1 := impl_MapTypes_l1 x w n p r hx (by omega) (by omega) (by omega) w.toNat m n.toNat 0 acc (by omega) (by omega)
      rw [show ((0 : Nat) : Int) = 0 from rfl] at hl1
      rw [hl1]
      have hbl := blk_length w.toNat r (8 * n.toNat) 0
      have e2 : ((p.length + 2 + n.toNat : Nat) : Int) = ((p ++ w :: n :: r.take n.toNat).length : Int) := by simp [List.length_take]; omega
      rw [e2, ih m _ _ (p ++ w :: n :: r.take n.toNat) (r.drop n.toNat) (by rw [hx]; simp) (by simp; omega) (by omega) (by simp; omega), mres_map]
theorem impl_MapTypes_eq (a : ByteArray) (ha : a.size ≤ 1048576) (k : Nat) (hk : 450000000 ≤ k) : impl_MapTypes.f k a = some (mres [] (tmap (-1) (L a))) := by
  have hs := size_L a
  unfold impl_MapTypes.f
  exact impl_MapTypes_l0 a ha (L a).length k [] (-1) [] (L a) rfl (Nat.le_refl _) (by omega) (by simp; omega)

end Go.Proofs.YtbaajohjglhpfaaDoor.Pure
namespace Go.Proofs.YtbaajohjglhpfaaDoor.Pure
open Go.RowKit Go.Proofs.YtbaajohjglhpfaaDoor.F Go.Proofs.YtbaajohjglhpfaaDoor.Base Go.Proofs.YtbaajohjglhpfaaDoorW.PrintWords Go.Proofs.YtbaajohjglhpfaaDoorW.PrintLast Go.Proofs.YtbaajohjglhpfaaDoorW.PrintMore
set_option linter.unusedVariables false
set_option linter.unusedSimpArgs false
-- base: BaseData
theorem impl_nameAt_l0 (x : ByteArray) (hx : x.size ≤ 1000000000) : ∀ (d p k : Nat), x.size ≤ p + d → p ≤ x.size + 64 → d < k → impl_nameAt.l0 k x (p : Int) = some (nmP (L x) d p : Int) := by
  intro d
  induction d with
  | zero =>
    intro p k h1 h2 hk
    obtain ⟨k, rfl⟩ : ∃ m, k = m + 1 := ⟨k - 1, by omega⟩
    rw [impl_nameAt.l0, if_neg (by omega)]
    rfl
  | succ d ih =>
    intro p k h1 h2 hk
    obtain ⟨k, rfl⟩ : ∃ m, k = m + 1 := ⟨k - 1, by omega⟩
    rw [impl_nameAt.l0]
    by_cases hp : p < x.size
    · have hl : p < (L x).length := by rw [← size_L]; exact hp
      have hc := byte_le (L x)[p]
      rw [if_pos (by omega), if_pos (by omega), bt_get hl, nmP, drop_at hl]
      generalize (L x)[p] = c at *
      rw [w64 (x := (c.toNat : Int)) (by omega) (by omega)]
      simp only
      by_cases h0 : c.toNat = 0
      · rw [if_pos (by omega), if_pos h0, w64 (by omega) (by omega)]
        by_cases h3 : 255 < p + 1
        · rw [if_pos (by omega), if_pos h3]; rfl
        · rw [if_neg (by omega), if_neg h3]; rfl
      · rw [if_neg (by omega), if_neg h0]
        by_cases h63 : 63 < c.toNat
        · rw [if_pos (by omega), if_pos h63]; rfl
        · rw [if_neg (by omega), if_neg h63, w64 (x := 1 + (c.toNat : Int)) (by omega) (by omega), w64 (by omega) (by omega)]
          have := ih (p + 1 + c.toNat) k (by omega) (by omega) (by omega)
          rw [← this]
          congr 1
          omega
    · rw [if_neg (by omega), nmP, List.drop_of_length_le (by rw [← size_L]; omega)]
      rfl
theorem impl_nameAt_eq (x : ByteArray) (hx : x.size ≤ 1000000000) (k : Nat) (hk : x.size + 1 < k) : impl_nameAt.f k x = some (nm (L x) : Int) := by
  unfold impl_nameAt.f nm
  rw [← size_L]
  exact impl_nameAt_l0 x hx (x.size + 1) 0 k (by omega) (by omega) hk

end Go.Proofs.YtbaajohjglhpfaaDoor.Pure
namespace Go.Proofs.YtbaajohjglhpfaaDoor.Pure
open Go.RowKit Go.Proofs.YtbaajohjglhpfaaDoor.F Go.Proofs.YtbaajohjglhpfaaDoor.Base Go.Proofs.YtbaajohjglhpfaaDoorW.PrintWords Go.Proofs.YtbaajohjglhpfaaDoorW.PrintLast Go.Proofs.YtbaajohjglhpfaaDoorW.PrintMore
set_option linter.unusedVariables false
set_option linter.unusedSimpArgs false
-- base: BaseForm
theorem impl_parsed_alnum (c : UInt8) : impl_parsed.alnum (c.toNat : Int) = alnum c := by
  unfold impl_parsed.alnum alnum
  congr 1 <;> (try congr 1) <;> (try congr 1) <;> simp <;> omega
theorem impl_parsed_tMost (s : ByteArray) : ∀ (d k : Nat), k ≤ s.size + 256 → impl_parsed.tEnd s d k ≤ s.size + 256 := by
  intro d
  induction d with
  | zero => intro k h; exact h
  | succ d ih =>
    intro k h
    rw [impl_parsed.tEnd]
    split
    · have := bt_range s (k : Int)
      exact ih _ (by omega)
    · exact h
theorem impl_parsed_tEnd (s : ByteArray) : ∀ (d k : Nat), s.size ≤ k + d → s.size ≤ impl_parsed.tEnd s d k ∧ k ≤ impl_parsed.tEnd s d k ∧ (impl_parsed.tEnd s d k = s.size ↔ (k ≤ s.size ∧ exact d ((L s).drop k) = true)) := by
  have hs := size_L s
  intro d
  induction d with
  | zero =>
    intro k h
    refine ⟨by rw [impl_parsed.tEnd]; omega, by rw [impl_parsed.tEnd]; omega, ?_⟩
    rw [impl_parsed.tEnd, List.drop_of_length_le (by omega)]
    simp [exact]
    omega
  | succ d ih =>
    intro k h
    rw [impl_parsed.tEnd]
    by_cases hk : k < s.size
    · have hl : k < (L s).length := by omega
      rw [if_pos hk, drop_at hl, exact, bt_get hl]
      generalize (L s)[k] = c
      have e : k + 1 + (c.toNat : Int).toNat = k + 1 + c.toNat := by omega
      rw [e]
      obtain ⟨h1, h2, h3⟩ := ih (k + 1 + c.toNat) (by omega)
      refine ⟨h1, by omega, ?_⟩
      rw [h3, List.drop_drop, List.length_drop]
      by_cases hc : (L s).length - (k + 1) < c.toNat
      · rw [if_pos hc]
        simp
        omega
      · rw [if_neg hc]
        exact ⟨fun h => ⟨by omega, h.2⟩, fun h => ⟨by omega, h.2⟩⟩
    · rw [if_neg hk, List.drop_of_length_le (by omega)]
      refine ⟨by omega, Nat.le_refl _, ?_⟩
      simp [exact]
      omega
theorem impl_parsed_n (s : ByteArray) (hs : s.size ≤ 65535) (K : Nat) (hK : 450000000 ≤ K) (c : UInt8) (hc : c.toNat ∈ [49, 50, 52, 103, 113, 110, 116, 99, 84, 109, 42]) (p : Nat) (hp : p ≤ s.size) (l : List UInt8) (hl : (L s).drop p = l) :
    ∃ o, impl_parsed.n K (c.toNat : Int) s p = some o ∧ (match o with | none => con c.toNat l = none | some n => 0 ≤ n ∧ n ≤ 100000 ∧ con c.toNat l = if (s.size : Int) < (p : Int) + n then none else some n.toNat) := by
  have hlen : l.length = s.size - p := by rw [← hl, List.length_drop, ← size_L]
  have hx : L (s.extract p s.size) = l := by rw [L_extract, hl, List.take_of_length_le (by omega)]
  have hxs : (s.extract p s.size).size = l.length := by rw [size_L, hx]
  have hbt : ∀ b t, l = b :: t → bt s (p : Int) = (b.toNat : Int) := fun b t e => by
    have h1 : p < (L s).length := by
      rw [← size_L]
      rw [e] at hlen
      simp at hlen
      omega
    rw [bt_get h1]
    rw [drop_at h1, e] at hl
    rw [(List.cons.inj hl).1]
  have fix : ∀ m : Nat, (if l.length < m then (none : Option Nat) else some m) = if (s.size : Int) < (p : Int) + (m : Int) then none else some ((m : Int)).toNat := by
    intro m
    by_cases h1 : l.length < m
    · rw [if_pos h1, if_pos (by omega)]
    · rw [if_neg h1, if_neg (by omega)]; rfl
  simp only [List.mem_cons, List.not_mem_nil, or_false] at hc
  rcases hc with h | h | h | h | h | h | h | h | h | h | h <;> rw [h]
  · exact ⟨some 1, by simp [impl_parsed.n], by decide, by decide, by unfold con; rw [if_pos rfl]; exact fix 1⟩
  · exact ⟨some 2, by simp [impl_parsed.n], by decide, by decide, by unfold con; rw [if_neg (by decide), if_pos rfl]; exact fix 2⟩
  · exact ⟨some 4, by simp [impl_parsed.n], by decide, by decide, by unfold con; rw [if_neg (by decide), if_neg (by decide), if_pos (by decide)]; exact fix 4⟩
  · exact ⟨some 4, by simp [impl_parsed.n], by decide, by decide, by unfold con; rw [if_neg (by decide), if_neg (by decide), if_pos (by decide)]; exact fix 4⟩
  · exact ⟨some 4, by simp [impl_parsed.n], by decide, by decide, by unfold con; rw [if_neg (by decide), if_neg (by decide), if_pos (by decide)]; exact fix 4⟩
  · have e1 : impl_parsed.n K ((110 : Nat) : Int) s p = (impl_nameAt.f K (s.extract p s.size)).bind fun n => some (if n = 0 then none else some n) := by unfold impl_parsed.n; simp
    have e2 : con 110 l = if nm l = 0 then none else some (nm l) := by unfold con; simp
    rw [e1, e2, impl_nameAt_eq _ (by omega) K (by omega), Option.bind_some, hx]
    have h1 := nm_le l
    by_cases h0 : nm l = 0
    · exact ⟨none, by rw [if_pos (by omega)], by rw [if_pos h0]⟩
    · exact ⟨some (nm l : Int), by rw [if_neg (by omega)], by omega, by omega, by rw [if_neg h0, if_neg (by omega)]; rfl⟩
  · have e1 : impl_parsed.n K ((116 : Nat) : Int) s p = some (if s.size ≤ p then none else some (1 + bt s (p : Int))) := by unfold impl_parsed.n; simp
    have e2 : con 116 l = if tx l = 0 then none else some (tx l) := by unfold con; simp
    rw [e1, e2]
    cases l with
    | nil => exact ⟨none, by rw [if_pos (by simp at hlen; omega)], rfl⟩
    | cons b t =>
      have hb := byte_le b
      simp only [List.length_cons] at hlen
      rw [hbt b t rfl, tx, if_neg (by omega)]
      refine ⟨_, rfl, by omega, by omega, ?_⟩
      by_cases h1 : t.length < b.toNat
      · rw [if_pos h1, if_pos rfl, if_pos (by omega)]
      · rw [if_neg h1, if_neg (by omega), if_neg (by omega)]
        congr 1
        omega
  · have e1 : impl_parsed.n K ((99 : Nat) : Int) s p = some (if s.size ≤ p then none else if 1 + bt s (p : Int) < 2 then none else if 16 < 1 + bt s (p : Int) then none else if (s.size : Int) < (p : Int) + (1 + bt s (p : Int)) then none else if (bytesOf (s.extract (p + 1) (p + (1 + bt s (p : Int)).toNat))).all impl_parsed.alnum then some (1 + bt s (p : Int)) else none) := by unfold impl_parsed.n; simp
    have e2 : con 99 l = if tx l < 2 ∨ 16 < tx l then none else if ((l.take (tx l)).drop 1).all alnum then some (tx l) else none := by unfold con; simp
    rw [e1, e2]
    cases l with
    | nil => exact ⟨none, by rw [if_pos (by simp at hlen; omega)], rfl⟩
    | cons b t =>
      have hb := byte_le b
      simp only [List.length_cons] at hlen
      rw [hbt b t rfl, if_neg (by omega)]
      have hdt : (L s).drop (p + 1) = t := by
        rw [← List.drop_drop, hl]
        rfl
      by_cases h1 : t.length < b.toNat
      · have h2 : tx (b :: t) = 0 := by rw [tx, if_pos h1]
        rw [h2, if_pos (show ((0 : Nat) < 2 ∨ 16 < (0 : Nat)) from .inl (by decide))]
        refine ⟨none, ?_, rfl⟩
        by_cases g1 : (1 : Int) + b.toNat < 2
        · rw [if_pos g1]
        · rw [if_neg g1]
          by_cases g2 : 16 < (1 : Int) + b.toNat
          · rw [if_pos g2]
          · rw [if_neg g2, if_pos (by omega)]
      · have h2 : tx (b :: t) = b.toNat + 1 := by rw [tx, if_neg h1]
        rw [h2]
        by_cases g1 : (1 : Int) + b.toNat < 2
        · exact ⟨none, by rw [if_pos g1], by rw [if_pos (show (b.toNat + 1 < 2 ∨ 16 < b.toNat + 1) by omega)]⟩
        · by_cases g2 : 16 < (1 : Int) + b.toNat
          · exact ⟨none, by rw [if_neg g1, if_pos g2], by rw [if_pos (show (b.toNat + 1 < 2 ∨ 16 < b.toNat + 1) by omega)]⟩
          · rw [if_neg g1, if_neg g2, if_neg (show ¬ ((s.size : Int) < (p : Int) + ((1 : Int) + b.toNat)) by omega), if_neg (show ¬ (b.toNat + 1 < 2 ∨ 16 < b.toNat + 1) by omega)]
            have h3 : (bytesOf (s.extract (p + 1) (p + ((1 : Int) + b.toNat).toNat))).all impl_parsed.alnum = (((b :: t).take (b.toNat + 1)).drop 1).all alnum := by
              have h4 : bytesOf (s.extract (p + 1) (p + ((1 : Int) + b.toNat).toNat)) = (L (s.extract (p + 1) (p + ((1 : Int) + b.toNat).toNat))).map fun c => (c.toNat : Int) := rfl
              rw [h4, L_extract, hdt, show p + ((1 : Int) + b.toNat).toNat - (p + 1) = b.toNat from by omega, List.all_map]
              rw [List.take_succ_cons, List.drop_succ_cons, List.drop_zero]
              congr 1
              funext c
              exact impl_parsed_alnum c
            rw [h3]
            by_cases g3 : (((b :: t).take (b.toNat + 1)).drop 1).all alnum = true
            · rw [if_pos g3, if_pos g3]
              refine ⟨_, rfl, by omega, by omega, ?_⟩
              rw [if_neg (by omega)]
              congr 1
              omega
            · rw [if_neg g3, if_neg g3]
              exact ⟨none, rfl, rfl⟩
  · have e1 : impl_parsed.n K ((84 : Nat) : Int) s p = some (if impl_parsed.tEnd s (s.size - p) p = p then none else some ((impl_parsed.tEnd s (s.size - p) p : Int) - p)) := by unfold impl_parsed.n; simp
    have e2 : con 84 l = if l = [] then none else if exact l.length l then some l.length else none := by unfold con; simp
    rw [e1, e2]
    obtain ⟨h1, h2, h3⟩ := impl_parsed_tEnd s (s.size - p) p (by omega)
    have h4 := impl_parsed_tMost s (s.size - p) p (by omega)
    have hex : exact (s.size - p) l = exact l.length l := by rw [hlen]
    rw [hl, hex] at h3
    generalize impl_parsed.tEnd s (s.size - p) p = e at *
    by_cases hn : l = []
    · have h0 : l.length = 0 := by rw [hn]; rfl
      have h5 : exact l.length l = true := by rw [hn]; rfl
      have h6 := h3.2 ⟨hp, h5⟩
      exact ⟨none, by rw [if_pos (by omega)], by rw [if_pos hn]⟩
    · have h0 : l.length ≠ 0 := fun h => hn (List.eq_nil_of_length_eq_zero h)
      refine ⟨some ((e : Int) - p), by rw [if_neg (by omega)], by omega, by omega, ?_⟩
      rw [if_neg hn]
      by_cases h5 : exact l.length l = true
      · have h6 := h3.2 ⟨hp, h5⟩
        rw [if_pos h5, if_neg (by omega)]
        congr 1
        omega
      · have h6 : ¬ e = s.size := fun h => h5 (h3.1 h).2
        rw [if_neg h5, if_pos (by omega)]
  · have e1 : impl_parsed.n K ((109 : Nat) : Int) s p = (impl_MapTypes.f K (s.extract p s.size)).bind fun r => some (if r.2 = 0 then some ((s.size : Int) - p) else none) := by unfold impl_parsed.n; simp
    have e2 : con 109 l = if (tmap (-1) l).isSome then some l.length else none := by unfold con; simp
    rw [e1, e2, impl_MapTypes_eq _ (by omega) K (by omega), Option.bind_some, hx]
    cases tmap (-1) l with
    | none => exact ⟨none, by rw [mres, if_neg (by decide)], rfl⟩
    | some ts => exact ⟨some ((s.size : Int) - p), by rw [mres, if_pos rfl], by omega, by omega, by rw [Option.isSome_some, if_pos rfl, if_neg (by omega)]; congr 1; omega⟩
  · exact ⟨some ((s.size : Int) - p), by simp [impl_parsed.n], by omega, by omega, by unfold con; simp; omega⟩
theorem impl_parsed_go (s : ByteArray) (hs : s.size ≤ 65535) (K : Nat) (hK : 450000000 ≤ K) : ∀ (r : List UInt8) (p : Nat) (sp : List _), letters r → p ≤ s.size → ∃ sp', impl_parsed.go K s r p sp = some (sp', pg r ((L s).drop p)) ∧ (pg r ((L s).drop p) = true → sp' = sp ++ (psp r p ((L s).drop p)).map fun x => ⟨(x.1 : Int), (x.2 : Int)⟩) := by
  intro r
  induction r with
  | nil =>
    intro p sp _ hp
    refine ⟨sp, ?_, fun _ => by simp [psp]⟩
    rw [impl_parsed.go, pg]
    congr 2
    rw [Bool.eq_iff_iff, List.isEmpty_iff, List.drop_eq_nil_iff, ← size_L, beq_iff_eq]
    omega
  | cons c r ih =>
    intro p sp hr hp
    obtain ⟨o, h1, h2⟩ := impl_parsed_n s hs K hK c (hr c (by simp)) p hp _ rfl
    rw [impl_parsed.go, h1, Option.bind_some, pg, psp]
    cases o with
    | none =>
      simp only at h2
      rw [h2]
      exact ⟨[], rfl, fun e => by cases e⟩
    | some n =>
      simp only at h2
      obtain ⟨h3, h4, h5⟩ := h2
      simp only
      rw [if_neg (by omega), h5]
      by_cases h6 : (s.size : Int) < (p : Int) + n
      · rw [if_pos h6, if_pos h6]
        exact ⟨[], rfl, fun e => by cases e⟩
      · rw [if_neg h6, if_neg h6]
        obtain ⟨sp', h7, h8⟩ := ih (p + n.toNat) (if (c.toNat : Int) = 110 then sp ++ [⟨p, (p : Int) + n⟩] else sp) (fun x hx => hr x (by simp [hx])) (by omega)
        refine ⟨sp', ?_, ?_⟩
        · rw [h7]
          simp only [List.drop_drop]
        · simp only [List.drop_drop]
          intro e
          rw [h8 e]
          by_cases h9 : (c.toNat : Int) = 110
          · rw [if_pos h9, if_pos (by omega), List.append_assoc]
            simp only [List.map_append, List.map_cons, List.map_nil]
            rw [show ((p + n.toNat : Nat) : Int) = (p : Int) + n from by omega]
          · rw [if_neg h9, if_neg (by omega), List.nil_append]

end Go.Proofs.YtbaajohjglhpfaaDoor.Pure
namespace Go.Proofs.YtbaajohjglhpfaaDoor.Pure
open Go.RowKit Go.Proofs.YtbaajohjglhpfaaDoor.F Go.Proofs.YtbaajohjglhpfaaDoor.Base Go.Proofs.YtbaajohjglhpfaaDoorW.PrintWords Go.Proofs.YtbaajohjglhpfaaDoorW.PrintLast Go.Proofs.YtbaajohjglhpfaaDoorW.PrintMore
set_option linter.unusedVariables false
set_option linter.unusedSimpArgs false
-- base: BaseForm
/-- The reference's form of a type. -/
def sform (t : Int) : List UInt8 :=
  if t = 1 then [98, 98, 98, 98] else if t = 2 ∨ t = 5 ∨ t = 12 ∨ t = 39 then [110] else if t = 6 then [110, 110, 98, 98, 98, 98, 98, 98, 98, 98, 98, 98, 98, 98, 98, 98, 98, 98, 98, 98, 98, 98]
  else if t = 13 then [116, 116] else if t = 15 then [98, 98, 110] else if t = 16 then [115] else if t = 28 then [98, 98, 98, 98, 98, 98, 98, 98, 98, 98, 98, 98, 98, 98, 98, 98]
  else if t = 33 then [98, 98, 98, 98, 98, 98, 110] else if t = 35 then [98, 98, 98, 98, 116, 116, 116, 110] else if t = 47 then [110, 109] else if t = 257 then [98, 99] else [42]
theorem spec_l02Form_eq (t : Int) (k : Nat) (hk : 1 ≤ k) : spec_l02Form.f k t = some (B (sform t)) := by
  obtain ⟨k, rfl⟩ : ∃ m, k = m + 1 := ⟨k - 1, by omega⟩
  unfold spec_l02Form.f
  by_cases c1 : t = 1
  · subst c1; rfl
  by_cases c2 : t = 2
  · subst c2; rfl
  by_cases c5 : t = 5
  · subst c5; rfl
  by_cases c12 : t = 12
  · subst c12; rfl
  by_cases c39 : t = 39
  · subst c39; rfl
  rw [if_neg c1, if_neg c2, if_neg c5, if_neg c12, spec_l02Form.j0, if_neg (by simpa using c39)]
  have hs : sform t = (if t = 6 then [110, 110, 98, 98, 98, 98, 98, 98, 98, 98, 98, 98, 98, 98, 98, 98, 98, 98, 98, 98, 98, 98]
      else if t = 13 then [116, 116] else if t = 15 then [98, 98, 110] else if t = 16 then [115] else if t = 28 then [98, 98, 98, 98, 98, 98, 98, 98, 98, 98, 98, 98, 98, 98, 98, 98]
      else if t = 33 then [98, 98, 98, 98, 98, 98, 110] else if t = 35 then [98, 98, 98, 98, 116, 116, 116, 110] else if t = 47 then [110, 109] else if t = 257 then [98, 99] else [42]) := by
    unfold sform
    rw [if_neg c1, if_neg (show ¬ (t = 2 ∨ t = 5 ∨ t = 12 ∨ t = 39) by omega)]
  rw [hs]
  by_cases c6 : t = 6
  · subst c6; rfl
  by_cases c13 : t = 13
  · subst c13; rfl
  by_cases c15 : t = 15
  · subst c15; rfl
  by_cases c16 : t = 16
  · subst c16; rfl
  by_cases c28 : t = 28
  · subst c28; rfl
  by_cases c33 : t = 33
  · subst c33; rfl
  by_cases c35 : t = 35
  · subst c35; rfl
  by_cases c47 : t = 47
  · subst c47; rfl
  by_cases c257 : t = 257
  · subst c257; rfl
  simp only [if_neg c6, if_neg c13, if_neg c15, if_neg c16, if_neg c28, if_neg c33, if_neg c35, if_neg c47, if_neg c257]
  rfl

end Go.Proofs.YtbaajohjglhpfaaDoor.Pure
namespace Go.Proofs.YtbaajohjglhpfaaDoor.Pure
open Go.RowKit Go.Proofs.YtbaajohjglhpfaaDoor.F Go.Proofs.YtbaajohjglhpfaaDoor.Base Go.Proofs.YtbaajohjglhpfaaDoorW.PrintWords Go.Proofs.YtbaajohjglhpfaaDoorW.PrintLast Go.Proofs.YtbaajohjglhpfaaDoorW.PrintMore
set_option linter.unusedVariables false
set_option linter.unusedSimpArgs false
-- base: BaseMap
theorem spec_l02Map_l0 : ∀ (N k : Nat) (x : ByteArray) (last : Int), x.size ≤ N → N < k → spec_l02Map.l0 k x last = some (tmap last (L x)).isSome := by
  intro N
  induction N with
  | zero =>
    intro k x last hn hk
    obtain ⟨k, rfl⟩ : ∃ m, k = m + 1 := ⟨k - 1, by omega⟩
    have hs := size_L x
    have hx : L x = [] := List.length_eq_zero_iff.1 (by omega)
    simp only [spec_l02Map.l0, toL]
    rw [if_pos hx, hx]
    simp [tmap]
  | succ N ih =>
    intro k x last hn hk
    obtain ⟨k, rfl⟩ : ∃ m, k = m + 1 := ⟨k - 1, by omega⟩
    have hs := size_L x
    simp only [spec_l02Map.l0, toL]
    match hx : L x with
    | [] => rw [if_pos rfl]; simp [tmap]
    | [c] =>
      rw [hx] at hs
      simp only [List.length_cons, List.length_nil] at hs
      rw [if_neg (by simp), if_pos (by omega)]
      simp [tmap]
    | w :: n :: r =>
      rw [hx] at hs
      simp only [List.length_cons] at hs
      have hw := byte_le w
      have hnb := byte_le n
      have b0 : bt x 0 = (w.toNat : Int) := bt_cons hx
      have b1 : bt x 1 = (n.toNat : Int) := bt_mid (p := [w]) hx rfl
      rw [if_neg (by simp), if_neg (by omega), if_pos (by omega), if_pos (by omega), b0, b1]
      simp (maxSteps := 10000000) (disch := omega) only [w64]
      rw [tmap]
      by_cases h1 : (w.toNat : Int) ≤ last
      · rw [if_pos h1, if_pos h1]; rfl
      · rw [if_neg h1, if_neg h1]
        by_cases h2 : n.toNat < 1
        · rw [if_pos (by omega), if_pos h2]; rfl
        · rw [if_neg (by omega), if_neg h2]
          by_cases h3 : 32 < n.toNat
          · rw [if_pos (by omega), if_pos h3]; rfl
          · rw [if_neg (by omega), if_neg h3]
            by_cases h4 : r.length < n.toNat
            · rw [if_pos (by omega), if_pos h4]; rfl
            · rw [if_neg (by omega), if_neg h4, if_pos (by omega), if_pos (by omega)]
              have b2 : bt x ((n.toNat : Int) + 1) = ((r.getD (n.toNat - 1) 0).toNat : Int) := by
                rw [bt_L, hx, show ((n.toNat : Int) + 1).toNat = (n.toNat - 1) + 2 from by omega]
                simp [List.getD_eq_getElem?_getD]
              rw [b2]
              by_cases h5 : (r.getD (n.toNat - 1) 0).toNat = 0
              · rw [if_pos (by omega), if_pos h5]; rfl
              · rw [if_neg (by omega), if_neg h5, if_pos (by omega), if_pos (by omega)]
                have e2 : L (x.extract ((n.toNat : Int) + 2).toNat x.size) = r.drop n.toNat := by
                  rw [L_extract, hx, hs, show ((n.toNat : Int) + 2).toNat = n.toNat + 2 from by omega]
                  simp [List.take_of_length_le]
                rw [ih k _ _ (by rw [size_L, e2]; simp; omega) (by omega), e2]
                cases tmap (w.toNat : Int) (r.drop n.toNat) <;> simp
theorem spec_l02Map_eq (a : ByteArray) (k : Nat) (hk : a.size < k) : spec_l02Map.f k a = some (tmap (-1) (L a)).isSome := by
  unfold spec_l02Map.f
  exact spec_l02Map_l0 a.size k a (-1) (Nat.le_refl _) hk

end Go.Proofs.YtbaajohjglhpfaaDoor.Pure
namespace Go.Proofs.YtbaajohjglhpfaaDoor.Pure
open Go.RowKit Go.Proofs.YtbaajohjglhpfaaDoor.F Go.Proofs.YtbaajohjglhpfaaDoor.Base Go.Proofs.YtbaajohjglhpfaaDoorW.PrintWords Go.Proofs.YtbaajohjglhpfaaDoorW.PrintLast Go.Proofs.YtbaajohjglhpfaaDoorW.PrintMore
set_option linter.unusedVariables false
set_option linter.unusedSimpArgs false
-- base: BaseData
theorem spec_l02NameAt_l0 (x : ByteArray) (hx : x.size ≤ 1000000000) : ∀ (d p k : Nat), x.size ≤ p + d → p ≤ x.size + 64 → 2 * d + 2 ≤ k → spec_l02NameAt.l0 k x (p : Int) = some (B ((L x).take (nmP (L x) d p))) := by
  intro d
  induction d with
  | zero =>
    intro p k h1 h2 hk
    obtain ⟨k, rfl⟩ : ∃ m, k = m + 1 + 1 := ⟨k - 2, by omega⟩
    rw [spec_l02NameAt.l0, if_neg (by omega), spec_l02NameAt.j1, if_neg (by decide)]
    rfl
  | succ d ih =>
    intro p k h1 h2 hk
    obtain ⟨k, rfl⟩ : ∃ m, k = m + 1 + 1 := ⟨k - 2, by omega⟩
    rw [spec_l02NameAt.l0]
    by_cases hp : p < x.size
    · rw [if_pos (by omega), spec_l02NameAt.j1]
      by_cases h255 : p < 255
      · have hl : p < (L x).length := by rw [← size_L]; exact hp
        have hc := byte_le (L x)[p]
        have hpi : (p : Int) < 255 := by omega
        rw [if_pos (decide_eq_true hpi), if_pos (by omega), if_pos (by omega), bt_get hl, nmP, drop_at hl]
        generalize (L x)[p] = c at *
        rw [w64 (x := (c.toNat : Int)) (by omega) (by omega)]
        simp only
        by_cases h0 : c.toNat = 0
        · rw [if_pos (by omega), if_pos h0, w64 (by omega) (by omega), if_pos (by omega), if_pos (by omega), if_neg (by omega)]
          congr 1
          apply L_inj
          rw [L_extract, L_B]
          simp
        · rw [if_neg (by omega), if_neg h0]
          by_cases h63 : 63 < c.toNat
          · rw [if_pos (by omega), if_pos h63]; rfl
          · rw [if_neg (by omega), if_neg h63, w64 (x := (p : Int) + (c.toNat : Int)) (by omega) (by omega), w64 (by omega) (by omega)]
            have := ih (p + 1 + c.toNat) k (by omega) (by omega) (by omega)
            rw [← this]
            congr 1
            omega
      · have hpi : ¬ (p : Int) < 255 := by omega
        rw [decide_eq_false hpi, if_neg (by decide), nmP_big _ _ _ (by omega)]
        rfl
    · rw [if_neg (by omega), spec_l02NameAt.j1, if_neg (by decide), nmP, List.drop_of_length_le (by rw [← size_L]; omega)]
      rfl
theorem spec_l02NameAt_eq (x : ByteArray) (hx : x.size ≤ 1000000000) (k : Nat) (hk : 2 * x.size + 4 ≤ k) : spec_l02NameAt.f k x = some (B ((L x).take (nm (L x)))) := by
  unfold spec_l02NameAt.f nm
  rw [← size_L]
  exact spec_l02NameAt_l0 x hx (x.size + 1) 0 k (by omega) (by omega) (by omega)

end Go.Proofs.YtbaajohjglhpfaaDoor.Pure
namespace Go.Proofs.YtbaajohjglhpfaaDoor.Pure
open Go.RowKit Go.Proofs.YtbaajohjglhpfaaDoor.F Go.Proofs.YtbaajohjglhpfaaDoor.Base Go.Proofs.YtbaajohjglhpfaaDoorW.PrintWords Go.Proofs.YtbaajohjglhpfaaDoorW.PrintLast Go.Proofs.YtbaajohjglhpfaaDoorW.PrintMore
set_option linter.unusedVariables false
set_option linter.unusedSimpArgs false
-- base: BaseData
theorem spec_l02Text_eq (x : ByteArray) (hx : x.size ≤ 1000000000) : spec_l02Text.f x = some (B ((L x).take (tx (L x)))) := by
  unfold spec_l02Text.f
  have hs := size_L x
  cases h : L x with
  | nil => rw [if_pos ((toList_nil x).2 h)]; rfl
  | cons c r =>
    rw [h] at hs
    have hc := byte_le c
    simp only [List.length_cons] at hs
    rw [if_neg (fun e => by rw [toList_nil, h] at e; cases e), if_pos (by omega), bt_cons h, w64 (x := (c.toNat : Int)) (by omega) (by omega), w64 (by omega) (by omega), tx]
    by_cases h1 : r.length < c.toNat
    · rw [if_pos (by omega), if_pos h1]; rfl
    · rw [if_neg (by omega), if_neg h1, if_pos (by omega), if_pos (by omega)]
      congr 1
      apply L_inj
      rw [L_extract, L_B, h]
      simp

end Go.Proofs.YtbaajohjglhpfaaDoor.Pure
namespace Go.Proofs.YtbaajohjglhpfaaDoor.Pure
open Go.RowKit Go.Proofs.YtbaajohjglhpfaaDoor.F Go.Proofs.YtbaajohjglhpfaaDoor.Base Go.Proofs.YtbaajohjglhpfaaDoorW.PrintWords Go.Proofs.YtbaajohjglhpfaaDoorW.PrintLast Go.Proofs.YtbaajohjglhpfaaDoorW.PrintMore
set_option linter.unusedVariables false
set_option linter.unusedSimpArgs false
-- base: BaseForm
theorem spec_l02Alnum_is (c : UInt8) : spec_l02Alnum.f (c.toNat : Int) = some (alnum c) := by
  have h : ∀ n : Fin 256, spec_l02Alnum.f (n.val : Int) = some ((decide (48 ≤ n.val) && decide (n.val ≤ 57)) || ((decide (97 ≤ n.val) && decide (n.val ≤ 122)) || (decide (65 ≤ n.val) && decide (n.val ≤ 90)))) := by decide +kernel
  exact h ⟨c.toNat, c.toNat_lt⟩
theorem spec_l02Parts_tag (K : Nat) : ∀ l : List UInt8, spec_l02Parts.tag K (l.map fun c => (c.toNat : Int)) = some (l.all alnum) := by
  intro l
  induction l with
  | nil => rfl
  | cons c r ih =>
    rw [List.map_cons, spec_l02Parts.tag, spec_l02Alnum_is, Option.bind_some, List.all_cons]
    cases alnum c
    · rfl
    · rw [if_pos rfl, ih]; rfl
/-- The texts that stand at the beginning, as many as there are: how many bytes. -/
def runs : Nat → List UInt8 → Nat
  | 0, _ => 0
  | d + 1, l => if tx l = 0 then 0 else tx l + runs d (l.drop (tx l))
theorem runs_le : ∀ (d : Nat) (l : List UInt8), runs d l ≤ l.length := by
  intro d
  induction d with
  | zero => intro l; exact Nat.zero_le _
  | succ d ih =>
    intro l
    rw [runs]
    split
    · exact Nat.zero_le _
    · have := ih (l.drop (tx l))
      have h := tx_le l
      rw [List.length_drop] at this
      omega
theorem spec_l02Parts_run (d : ByteArray) (hd : d.size ≤ 65535) : ∀ (n k : Nat) (p : ByteArray) (q : Nat), L p = (L d).take q → q ≤ d.size → d.size ≤ q + n → n + 1 ≤ k →
    spec_l02Parts.run k d p = some (B ((L d).take (q + runs n ((L d).drop q)))) := by
  have hs := size_L d
  intro n
  induction n with
  | zero =>
    intro k p q hp hq hn hk
    obtain ⟨k, rfl⟩ : ∃ m, k = m + 1 := ⟨k - 1, by omega⟩
    have hps : p.size = q := by rw [size_L, hp, List.length_take]; omega
    have hx : L (d.extract p.size d.size) = [] := by rw [L_extract, hps, List.drop_of_length_le (by omega)]; simp
    rw [spec_l02Parts.run, if_neg (by omega), spec_l02Text_eq _ (by rw [size_L, hx]; decide), Option.bind_some, hx, if_pos (by rw [size_L, L_B]; rfl)]
    congr 1
    apply L_inj
    rw [L_B, hp]
    rfl
  | succ n ih =>
    intro k p q hp hq hn hk
    obtain ⟨k, rfl⟩ : ∃ m, k = m + 1 := ⟨k - 1, by omega⟩
    have hps : p.size = q := by rw [size_L, hp, List.length_take]; omega
    have hx : L (d.extract p.size d.size) = (L d).drop q := by rw [L_extract, hps, List.take_of_length_le (by rw [List.length_drop]; omega)]
    have hxl : ((L d).drop q).length = d.size - q := by rw [List.length_drop]; omega
    have ht := tx_le ((L d).drop q)
    rw [spec_l02Parts.run, if_neg (by omega), spec_l02Text_eq _ (by rw [size_L, hx]; omega), Option.bind_some, hx, runs]
    have hsz : (B (((L d).drop q).take (tx ((L d).drop q)))).size = tx ((L d).drop q) := by rw [size_L, L_B, List.length_take]; omega
    rw [hsz]
    by_cases h0 : tx ((L d).drop q) = 0
    · rw [if_pos h0, if_pos h0]
      congr 1
      apply L_inj
      rw [L_B, hp]
      rfl
    · rw [if_neg h0, if_neg h0, if_pos (by omega), ih k _ (q + tx ((L d).drop q)) (by rw [L_append, L_B, hp, List.take_add]) (by omega) (by omega) (by omega), List.drop_drop]
      congr 3
      omega
/-- What a letter of the reference's forms takes. -/
def scon (c : Nat) (l : List UInt8) : Option Nat :=
  if c = 110 then (if nm l = 0 then none else some (nm l)) else if c = 98 then (if l = [] then none else some 1) else if c = 116 then (if tx l = 0 then none else some (tx l))
  else if c = 115 then (if runs l.length l = 0 then none else some (runs l.length l))
  else if c = 99 then (if tx l < 2 ∨ 16 < tx l then none else if ((l.take (tx l)).drop 1).all alnum then some l.length else none)
  else if c = 109 then (if (tmap (-1) l).isSome then some l.length else none) else if c = 42 then some l.length else none
def spg : List UInt8 → List UInt8 → Bool
  | [], l => l.isEmpty
  | c :: r, l => match scon c.toNat l with | none => false | some n => spg r (l.drop n)
def sletters (l : List UInt8) : Prop := ∀ c ∈ l, c.toNat ∈ [110, 98, 116, 115, 99, 109, 42]
theorem spec_l02Parts_pre (K : Nat) (hK : 450000000 ≤ K) (c : UInt8) (hc : c.toNat ∈ [110, 98, 116, 115, 99, 109, 42]) (d : ByteArray) (hd : d.size ≤ 65535) :
    ∃ o, spec_l02Parts.pre K (c.toNat : Int) d = some o ∧ (match o with
      | none => scon c.toNat (L d) = none
      | some p => p.size ≤ d.size ∧ L p = (L d).take p.size ∧ scon c.toNat (L d) = if p.size = 0 ∧ (c.toNat : Int) ≠ 109 ∧ (c.toNat : Int) ≠ 42 then none else some p.size) := by
  have hs := size_L d
  generalize hl : L d = l at *
  have h1 := nm_le l
  have h2 := tx_le l
  have hts : ∀ n, n ≤ l.length → (B (l.take n)).size = n := fun n hn => by rw [size_L, L_B, List.length_take]; omega
  simp only [List.mem_cons, List.not_mem_nil, or_false] at hc
  rcases hc with h | h | h | h | h | h | h <;> rw [h]
  · have e1 : spec_l02Parts.pre K ((110 : Nat) : Int) d = (spec_l02NameAt.f K d).bind fun p => some (some p) := by unfold spec_l02Parts.pre; simp
    have e2 : scon 110 l = if nm l = 0 then none else some (nm l) := by unfold scon; simp
    rw [e1, e2, spec_l02NameAt_eq d (by omega) K (by omega), Option.bind_some, hl]
    refine ⟨_, rfl, by rw [hts _ h1]; omega, by rw [L_B, hts _ h1], ?_⟩
    rw [hts _ h1]
    by_cases h0 : nm l = 0
    · rw [if_pos h0, if_pos ⟨h0, by decide, by decide⟩]
    · rw [if_neg h0, if_neg (fun e => h0 e.1)]
  · have e1 : spec_l02Parts.pre K ((98 : Nat) : Int) d = some (some (if d.size = 0 then ⟨#[]⟩ else d.extract 0 1)) := by unfold spec_l02Parts.pre; simp
    have e2 : scon 98 l = if l = [] then none else some 1 := by unfold scon; simp
    rw [e1, e2]
    by_cases h0 : d.size = 0
    · have h3 : l = [] := List.eq_nil_of_length_eq_zero (by omega)
      rw [if_pos h0, if_pos h3]
      exact ⟨_, rfl, by show (0 : Nat) ≤ _; omega, rfl, by rw [if_pos ⟨rfl, by decide, by decide⟩]⟩
    · have h3 : ¬ l = [] := fun e => h0 (by rw [e] at hs; exact hs)
      have h4 : (d.extract 0 1).size = 1 := by rw [ByteArray.size_extract]; omega
      rw [if_neg h0, if_neg h3]
      exact ⟨_, rfl, by rw [h4]; omega, by rw [L_extract, hl, h4]; rfl, by rw [h4, if_neg (fun e => absurd e.1 (by decide))]⟩
  · have e1 : spec_l02Parts.pre K ((116 : Nat) : Int) d = (spec_l02Text.f d).bind fun p => some (some p) := by unfold spec_l02Parts.pre; simp
    have e2 : scon 116 l = if tx l = 0 then none else some (tx l) := by unfold scon; simp
    rw [e1, e2, spec_l02Text_eq d (by omega), Option.bind_some, hl]
    refine ⟨_, rfl, by rw [hts _ h2]; omega, by rw [L_B, hts _ h2], ?_⟩
    rw [hts _ h2]
    by_cases h0 : tx l = 0
    · rw [if_pos h0, if_pos ⟨h0, by decide, by decide⟩]
    · rw [if_neg h0, if_neg (fun e => h0 e.1)]
  · have e1 : spec_l02Parts.pre K ((115 : Nat) : Int) d = (spec_l02Parts.run K d ⟨#[]⟩).bind fun p => some (some p) := by unfold spec_l02Parts.pre; simp
    have e2 : scon 115 l = if runs l.length l = 0 then none else some (runs l.length l) := by unfold scon; simp
    have h3 := runs_le l.length l
    rw [e1, e2, spec_l02Parts_run d hd l.length K ⟨#[]⟩ 0 rfl (Nat.zero_le _) (by omega) (by omega), Option.bind_some, hl, List.drop_zero, Nat.zero_add]
    refine ⟨_, rfl, by rw [hts _ h3]; omega, by rw [L_B, hts _ h3], ?_⟩
    rw [hts _ h3]
    by_cases h0 : runs l.length l = 0
    · rw [if_pos h0, if_pos ⟨h0, by decide, by decide⟩]
    · rw [if_neg h0, if_neg (fun e => h0 e.1)]
  · have e1 : spec_l02Parts.pre K ((99 : Nat) : Int) d = (spec_l02Text.f d).bind fun p => if p.size < 2 then some none else if 16 < p.size then some none else (spec_l02Parts.tag K ((bytesOf p).drop 1)).bind fun b => some (if b = true then some d else none) := by unfold spec_l02Parts.pre; simp
    have e2 : scon 99 l = if tx l < 2 ∨ 16 < tx l then none else if ((l.take (tx l)).drop 1).all alnum then some l.length else none := by unfold scon; simp
    rw [e1, e2, spec_l02Text_eq d (by omega), Option.bind_some, hl, hts _ h2]
    by_cases g1 : tx l < 2
    · exact ⟨none, by rw [if_pos g1], by rw [if_pos (.inl g1)]⟩
    · by_cases g2 : 16 < tx l
      · exact ⟨none, by rw [if_neg g1, if_pos g2], by rw [if_pos (.inr g2)]⟩
      · have h4 : (bytesOf (B (l.take (tx l)))).drop 1 = ((l.take (tx l)).drop 1).map fun c => (c.toNat : Int) := by
          have h5 : bytesOf (B (l.take (tx l))) = (L (B (l.take (tx l)))).map fun c => (c.toNat : Int) := rfl
          rw [h5, L_B, List.map_drop]
        rw [if_neg g1, if_neg g2, if_neg (show ¬ (tx l < 2 ∨ 16 < tx l) by omega), h4, spec_l02Parts_tag, Option.bind_some]
        by_cases g3 : ((l.take (tx l)).drop 1).all alnum = true
        · rw [if_pos g3, if_pos g3]
          exact ⟨_, rfl, Nat.le_refl _, by rw [hl, hs, List.take_length], by rw [if_neg (fun e => by have := e.1; omega), hs]⟩
        · rw [if_neg g3, if_neg g3]
          exact ⟨none, rfl, rfl⟩
  · have e1 : spec_l02Parts.pre K ((109 : Nat) : Int) d = (spec_l02Map.f K d).bind fun b => some (if b = true then some d else none) := by unfold spec_l02Parts.pre; simp
    have e2 : scon 109 l = if (tmap (-1) l).isSome then some l.length else none := by unfold scon; simp
    rw [e1, e2, spec_l02Map_eq d K (by omega), Option.bind_some, hl]
    cases tmap (-1) l with
    | none => exact ⟨none, rfl, rfl⟩
    | some ts => exact ⟨some d, rfl, Nat.le_refl _, by rw [hl, hs, List.take_length], by rw [if_pos (show (some ts).isSome = true from rfl), hs, if_neg (fun e => e.2.1 rfl)]⟩
  · have e1 : spec_l02Parts.pre K ((42 : Nat) : Int) d = some (some d) := by unfold spec_l02Parts.pre; simp
    have e2 : scon 42 l = some l.length := by unfold scon; simp
    rw [e1, e2]
    exact ⟨_, rfl, Nat.le_refl _, by rw [hl, hs, List.take_length], by rw [if_neg (fun e => e.2.2 rfl), hs]⟩
/-- The parts of data, by the reference's forms. -/
def sparts : List UInt8 → List UInt8 → List (List UInt8)
  | [], _ => []
  | c :: r, l => match scon c.toNat l with | none => [] | some n => l.take n :: sparts r (l.drop n)
theorem sparts_length : ∀ (r l : List UInt8), spg r l = true → (sparts r l).length = r.length := by
  intro r
  induction r with
  | nil => intro l _; rfl
  | cons c r ih =>
    intro l h
    rw [spg] at h
    rw [sparts]
    cases hc : scon c.toNat l with
    | none => rw [hc] at h; cases h
    | some n =>
      rw [hc] at h
      simp only at h ⊢
      rw [List.length_cons, List.length_cons, ih _ h]
/-- The stretches that the names take, by the reference's forms. -/
def ssp : List UInt8 → Nat → List UInt8 → List (Nat × Nat)
  | [], _, _ => []
  | c :: r, p, l => match scon c.toNat l with
    | none => []
    | some n => (if c.toNat = 110 then [(p, p + n)] else []) ++ ssp r (p + n) (l.drop n)
theorem spec_l02Parts_go (K : Nat) (hK : 450000000 ≤ K) : ∀ (r : List UInt8) (d : ByteArray) (out : List ByteArray), sletters r → d.size ≤ 65535 → out.length + r.length ≤ 1000 → ∃ out', spec_l02Parts.go K r d out = some (out', spg r (L d)) ∧ (spg r (L d) = true → out' = out ++ (sparts r (L d)).map B) := by
  intro r
  induction r with
  | nil =>
    intro d out _ _ _
    exact ⟨out, by rw [spec_l02Parts.go, spg, toL], fun _ => by simp [sparts]⟩
  | cons c r ih =>
    intro d out hr hd ho
    obtain ⟨o, h1, h2⟩ := spec_l02Parts_pre K hK c (hr c (by simp)) d hd
    simp only [List.length_cons] at ho
    rw [spec_l02Parts.go, h1, Option.bind_some, spg, sparts]
    cases o with
    | none =>
      simp only at h2
      rw [h2]
      exact ⟨[], rfl, fun e => by cases e⟩
    | some p =>
      simp only at h2
      obtain ⟨h3, hp, h4⟩ := h2
      rw [h4]
      simp only
      by_cases h5 : p.size = 0 ∧ (c.toNat : Int) ≠ 109 ∧ (c.toNat : Int) ≠ 42
      · rw [if_pos h5, if_pos h5]
        exact ⟨[], rfl, fun e => by cases e⟩
      · rw [if_neg h5, if_neg h5, if_neg (by omega), if_neg (by omega)]
        have hx : L (d.extract p.size d.size) = (L d).drop p.size := by rw [L_extract, List.take_of_length_le (by rw [List.length_drop, ← size_L]; exact Nat.le_refl _)]
        obtain ⟨out', h6, h7⟩ := ih (d.extract p.size d.size) (out ++ [p]) (fun x hx => hr x (by simp [hx])) (by rw [size_L, hx, List.length_drop, ← size_L]; omega) (by simp; omega)
        refine ⟨out', by rw [h6, hx], fun e => ?_⟩
        rw [hx] at h7
        rw [h7 e, List.append_assoc]
        simp only [List.map_cons, List.singleton_append]
        congr 2
        apply L_inj
        rw [L_B]
        exact hp
theorem exact_runs : ∀ (d : Nat) (l : List UInt8), l.length ≤ d → (exact d l = true ↔ runs d l = l.length) := by
  intro d
  induction d with
  | zero =>
    intro l h
    obtain rfl : l = [] := List.eq_nil_of_length_eq_zero (by omega)
    exact ⟨fun _ => rfl, fun _ => rfl⟩
  | succ d ih =>
    intro l h
    cases l with
    | nil => exact ⟨fun _ => by rw [runs, if_pos (by rfl)]; rfl, fun _ => rfl⟩
    | cons c r =>
      simp only [List.length_cons] at h
      rw [exact, runs, tx]
      by_cases h1 : r.length < c.toNat
      · rw [if_pos h1, if_pos h1, if_pos rfl]
        simp
      · rw [if_neg h1, if_neg h1, if_neg (by omega), List.drop_succ_cons, ih (r.drop c.toNat) (by rw [List.length_drop]; omega), List.length_drop, List.length_cons]
        omega
theorem pg_nil (l : List UInt8) : pg [] l = l.isEmpty := rfl
theorem spg_nil (l : List UInt8) : spg [] l = l.isEmpty := rfl
theorem pg_1 (r l : List UInt8) : pg (49 :: r) l = if l.length < 1 then false else pg r (l.drop 1) := by
  rw [pg]; show (match (if l.length < 1 then none else some 1) with | none => false | some n => pg r (l.drop n)) = _
  cases l <;> simp
theorem pg_2 (r l : List UInt8) : pg (50 :: r) l = if l.length < 2 then false else pg r (l.drop 2) := by
  rw [pg]; show (match (if l.length < 2 then none else some 2) with | none => false | some n => pg r (l.drop n)) = _; split <;> rename_i h <;> split at h <;> simp_all
theorem pg_4 (r l : List UInt8) : pg (52 :: r) l = if l.length < 4 then false else pg r (l.drop 4) := by
  rw [pg]; show (match (if l.length < 4 then none else some 4) with | none => false | some n => pg r (l.drop n)) = _; split <;> rename_i h <;> split at h <;> simp_all
theorem pg_g (r l : List UInt8) : pg (103 :: r) l = if l.length < 4 then false else pg r (l.drop 4) := by
  rw [pg]; show (match (if l.length < 4 then none else some 4) with | none => false | some n => pg r (l.drop n)) = _; split <;> rename_i h <;> split at h <;> simp_all
theorem pg_q (r l : List UInt8) : pg (113 :: r) l = if l.length < 4 then false else pg r (l.drop 4) := by
  rw [pg]; show (match (if l.length < 4 then none else some 4) with | none => false | some n => pg r (l.drop n)) = _; split <;> rename_i h <;> split at h <;> simp_all
theorem pg_n (r l : List UInt8) : pg (110 :: r) l = if nm l = 0 then false else pg r (l.drop (nm l)) := by
  rw [pg]; show (match (if nm l = 0 then none else some (nm l)) with | none => false | some n => pg r (l.drop n)) = _; split <;> rename_i h <;> split at h <;> simp_all
theorem pg_t (r l : List UInt8) : pg (116 :: r) l = if tx l = 0 then false else pg r (l.drop (tx l)) := by
  rw [pg]; show (match (if tx l = 0 then none else some (tx l)) with | none => false | some n => pg r (l.drop n)) = _; split <;> rename_i h <;> split at h <;> simp_all
theorem spg_n (r l : List UInt8) : spg (110 :: r) l = if nm l = 0 then false else spg r (l.drop (nm l)) := by
  rw [spg]; show (match (if nm l = 0 then none else some (nm l)) with | none => false | some n => spg r (l.drop n)) = _; split <;> rename_i h <;> split at h <;> simp_all
theorem spg_t (r l : List UInt8) : spg (116 :: r) l = if tx l = 0 then false else spg r (l.drop (tx l)) := by
  rw [spg]; show (match (if tx l = 0 then none else some (tx l)) with | none => false | some n => spg r (l.drop n)) = _; split <;> rename_i h <;> split at h <;> simp_all
theorem spg_b (r l : List UInt8) : spg (98 :: r) l = if l.length < 1 then false else spg r (l.drop 1) := by
  rw [spg]; show (match (if l = [] then none else some 1) with | none => false | some n => spg r (l.drop n)) = _
  cases l <;> simp
theorem spg_bb (r l : List UInt8) : spg (98 :: 98 :: r) l = if l.length < 2 then false else spg r (l.drop 2) := by
  rw [spg_b, spg_b, List.length_drop, List.drop_drop]
  by_cases h : l.length < 2
  · rw [if_pos h]
    split
    · rfl
    · rw [if_pos (by omega)]
  · rw [if_neg h, if_neg (by omega), if_neg (by omega)]
theorem spg_b4 (r l : List UInt8) : spg (98 :: 98 :: 98 :: 98 :: r) l = if l.length < 4 then false else spg r (l.drop 4) := by
  rw [spg_bb, spg_bb, List.length_drop, List.drop_drop]
  by_cases h : l.length < 4
  · rw [if_pos h]
    split
    · rfl
    · rw [if_pos (by omega)]
  · rw [if_neg h, if_neg (by omega), if_neg (by omega)]

end Go.Proofs.YtbaajohjglhpfaaDoor.Pure
namespace Go.Proofs.YtbaajohjglhpfaaDoor.Pure
open Go.RowKit Go.Proofs.YtbaajohjglhpfaaDoor.F Go.Proofs.YtbaajohjglhpfaaDoor.Base Go.Proofs.YtbaajohjglhpfaaDoorW.PrintWords Go.Proofs.YtbaajohjglhpfaaDoorW.PrintLast Go.Proofs.YtbaajohjglhpfaaDoorW.PrintMore
set_option linter.unusedVariables false
set_option linter.unusedSimpArgs false
-- base: BaseForm
theorem forms_T (l : List UInt8) : pg [84] l = spg [115] l := by
  have e1 : con 84 l = if l = [] then none else if exact l.length l then some l.length else none := by unfold con; simp
  have e2 : scon 115 l = if runs l.length l = 0 then none else some (runs l.length l) := by unfold scon; simp
  have h := exact_runs l.length l (Nat.le_refl _)
  have h2 := runs_le l.length l
  rw [pg, spg]
  show (match con 84 l with | none => false | some n => pg [] (l.drop n)) = (match scon 115 l with | none => false | some n => spg [] (l.drop n))
  rw [e1, e2]
  by_cases hn : l = []
  · subst hn; rfl
  · have h0 : l.length ≠ 0 := fun e => hn (List.eq_nil_of_length_eq_zero e)
    rw [if_neg hn]
    by_cases hx : exact l.length l = true
    · have h3 := h.1 hx
      rw [if_pos hx, if_neg (by omega), h3]
      rfl
    · have h3 : runs l.length l ≠ l.length := fun e => hx (h.2 e)
      rw [if_neg hx]
      by_cases h4 : runs l.length l = 0
      · rw [if_pos h4]
      · rw [if_neg h4]
        show false = (l.drop (runs l.length l)).isEmpty
        symm
        rw [Bool.eq_false_iff]
        intro e
        rw [List.isEmpty_iff, List.drop_eq_nil_iff] at e
        omega
theorem forms_c (l : List UInt8) : pg [99, 42] l = spg [99] l := by
  have e1 : con 99 l = if tx l < 2 ∨ 16 < tx l then none else if ((l.take (tx l)).drop 1).all alnum then some (tx l) else none := by unfold con; simp
  have e2 : scon 99 l = if tx l < 2 ∨ 16 < tx l then none else if ((l.take (tx l)).drop 1).all alnum then some l.length else none := by unfold scon; simp
  have e3 : ∀ x : List UInt8, pg [42] x = true := fun x => by
    have : con 42 x = some x.length := by unfold con; simp
    rw [pg]
    show (match con 42 x with | none => false | some n => pg [] (x.drop n)) = true
    rw [this]
    simp [pg]
  rw [pg, spg]
  show (match con 99 l with | none => false | some n => pg [42] (l.drop n)) = (match scon 99 l with | none => false | some n => spg [] (l.drop n))
  rw [e1, e2]
  by_cases h1 : tx l < 2 ∨ 16 < tx l
  · rw [if_pos h1, if_pos h1]
  · rw [if_neg h1, if_neg h1]
    by_cases h2 : ((l.take (tx l)).drop 1).all alnum = true
    · rw [if_pos h2, if_pos h2]
      simp [e3, spg]
    · rw [if_neg h2, if_neg h2]
theorem forms_m (l : List UInt8) : pg [109] l = spg [109] l := by
  have e1 : con 109 l = if (tmap (-1) l).isSome then some l.length else none := by unfold con; simp
  have e2 : scon 109 l = if (tmap (-1) l).isSome then some l.length else none := by unfold scon; simp
  rw [pg, spg]
  show (match con 109 l with | none => false | some n => pg [] (l.drop n)) = (match scon 109 l with | none => false | some n => spg [] (l.drop n))
  rw [e1, e2]
  rfl
theorem forms_star (l : List UInt8) : spg [42] l = true := by
  have : scon 42 l = some l.length := by unfold scon; simp
  rw [spg]
  show (match scon 42 l with | none => false | some n => spg [] (l.drop n)) = true
  rw [this]
  simp [spg]
/-- The two forms of a type tell the same data. -/
theorem forms_same (t : Int) (l : List UInt8) : (match formOf t with | none => true | some f => pg f.data.toList l) = spg (sform t) l := by
  by_cases c1 : t = 1
  · subst c1; show pg [52] l = spg [98, 98, 98, 98] l; rw [pg_4, spg_b4]; rfl
  by_cases c2 : t = 2
  · subst c2; show pg [110] l = spg [110] l; rw [pg_n, spg_n]; rfl
  by_cases c5 : t = 5
  · subst c5; show pg [110] l = spg [110] l; rw [pg_n, spg_n]; rfl
  by_cases c6 : t = 6
  · subst c6; show pg [110, 110, 103, 103, 103, 103, 113] l = spg [110, 110, 98, 98, 98, 98, 98, 98, 98, 98, 98, 98, 98, 98, 98, 98, 98, 98, 98, 98, 98, 98] l; rw [pg_n, pg_n, pg_g, pg_g, pg_g, pg_g, pg_q, spg_n, spg_n, spg_b4, spg_b4, spg_b4, spg_b4, spg_b4]; rfl
  by_cases c12 : t = 12
  · subst c12; show pg [110] l = spg [110] l; rw [pg_n, spg_n]; rfl
  by_cases c13 : t = 13
  · subst c13; show pg [116, 116] l = spg [116, 116] l; rw [pg_t, pg_t, spg_t, spg_t]; rfl
  by_cases c15 : t = 15
  · subst c15; show pg [50, 110] l = spg [98, 98, 110] l; rw [pg_2, pg_n, spg_bb, spg_n]; rfl
  by_cases c16 : t = 16
  · subst c16; exact forms_T l
  by_cases c28 : t = 28
  · subst c28; show pg [103, 103, 103, 103] l = spg [98, 98, 98, 98, 98, 98, 98, 98, 98, 98, 98, 98, 98, 98, 98, 98] l; rw [pg_g, pg_g, pg_g, pg_g, spg_b4, spg_b4, spg_b4, spg_b4]; rfl
  by_cases c33 : t = 33
  · subst c33; show pg [50, 50, 50, 110] l = spg [98, 98, 98, 98, 98, 98, 110] l; rw [pg_2, pg_2, pg_2, pg_n, spg_bb, spg_bb, spg_bb, spg_n]; rfl
  by_cases c35 : t = 35
  · subst c35; show pg [50, 50, 116, 116, 116, 110] l = spg [98, 98, 98, 98, 116, 116, 116, 110] l; rw [pg_2, pg_2, pg_t, pg_t, pg_t, pg_n, spg_bb, spg_bb, spg_t, spg_t, spg_t, spg_n]; rfl
  by_cases c39 : t = 39
  · subst c39; show pg [110] l = spg [110] l; rw [pg_n, spg_n]; rfl
  by_cases c47 : t = 47
  · subst c47; show pg [110, 109] l = spg [110, 109] l; rw [pg_n, spg_n, forms_m]
  by_cases c257 : t = 257
  · subst c257; show pg [49, 99, 42] l = spg [98, 99] l; rw [pg_1, spg_b, forms_c]
  have e1 : formOf t = none := by
    unfold formOf
    simp only [if_neg c1, if_neg c2, if_neg c5, if_neg c6, if_neg c12, if_neg c13, if_neg c15, if_neg c16, if_neg c28, if_neg c33, if_neg c35, if_neg c39, if_neg c47, if_neg c257]
  have e2 : sform t = [42] := by
    unfold sform
    rw [if_neg c1, if_neg (show ¬ (t = 2 ∨ t = 5 ∨ t = 12 ∨ t = 39) by omega)]
    simp only [if_neg c6, if_neg c13, if_neg c15, if_neg c16, if_neg c28, if_neg c33, if_neg c35, if_neg c47, if_neg c257]
  rw [e1, e2, forms_star]
theorem letters_of {t : Int} {f : ByteArray} (h : formOf t = some f) : letters f.data.toList := by
  unfold formOf at h
  by_cases c1 : t = 1
  · rw [if_pos c1] at h
    obtain rfl := Option.some.inj h
    unfold letters
    decide
  rw [if_neg c1] at h
  by_cases c2 : t = 2
  · rw [if_pos c2] at h
    obtain rfl := Option.some.inj h
    unfold letters
    decide
  rw [if_neg c2] at h
  by_cases c5 : t = 5
  · rw [if_pos c5] at h
    obtain rfl := Option.some.inj h
    unfold letters
    decide
  rw [if_neg c5] at h
  by_cases c6 : t = 6
  · rw [if_pos c6] at h
    obtain rfl := Option.some.inj h
    unfold letters
    decide
  rw [if_neg c6] at h
  by_cases c12 : t = 12
  · rw [if_pos c12] at h
    obtain rfl := Option.some.inj h
    unfold letters
    decide
  rw [if_neg c12] at h
  by_cases c13 : t = 13
  · rw [if_pos c13] at h
    obtain rfl := Option.some.inj h
    unfold letters
    decide
  rw [if_neg c13] at h
  by_cases c15 : t = 15
  · rw [if_pos c15] at h
    obtain rfl := Option.some.inj h
    unfold letters
    decide
  rw [if_neg c15] at h
  by_cases c16 : t = 16
  · rw [if_pos c16] at h
    obtain rfl := Option.some.inj h
    unfold letters
    decide
  rw [if_neg c16] at h
  by_cases c28 : t = 28
  · rw [if_pos c28] at h
    obtain rfl := Option.some.inj h
    unfold letters
    decide
  rw [if_neg c28] at h
  by_cases c33 : t = 33
  · rw [if_pos c33] at h
    obtain rfl := Option.some.inj h
    unfold letters
    decide
  rw [if_neg c33] at h
  by_cases c35 : t = 35
  · rw [if_pos c35] at h
    obtain rfl := Option.some.inj h
    unfold letters
    decide
  rw [if_neg c35] at h
  by_cases c39 : t = 39
  · rw [if_pos c39] at h
    obtain rfl := Option.some.inj h
    unfold letters
    decide
  rw [if_neg c39] at h
  by_cases c47 : t = 47
  · rw [if_pos c47] at h
    obtain rfl := Option.some.inj h
    unfold letters
    decide
  rw [if_neg c47] at h
  by_cases c257 : t = 257
  · rw [if_pos c257] at h
    obtain rfl := Option.some.inj h
    unfold letters
    decide
  rw [if_neg c257] at h
  cases h
theorem sletters_of (t : Int) : sletters (sform t) ∧ (sform t).length ≤ 100 := by
  unfold sform
  repeat' split
  all_goals exact ⟨by unfold sletters; decide, by decide⟩
theorem psp_no : ∀ (r : List UInt8) (p : Nat) (l : List UInt8), (∀ c ∈ r, c.toNat ≠ 110) → psp r p l = [] := by
  intro r
  induction r with
  | nil => intro p l _; rfl
  | cons c r ih =>
    intro p l h
    rw [psp]
    cases con c.toNat l with
    | none => rfl
    | some n =>
      simp only
      rw [if_neg (h c (by simp)), ih _ _ (fun x hx => h x (by simp [hx]))]
      rfl
theorem ssp_no : ∀ (r : List UInt8) (p : Nat) (l : List UInt8), (∀ c ∈ r, c.toNat ≠ 110) → ssp r p l = [] := by
  intro r
  induction r with
  | nil => intro p l _; rfl
  | cons c r ih =>
    intro p l h
    rw [ssp]
    cases scon c.toNat l with
    | none => rfl
    | some n =>
      simp only
      rw [if_neg (h c (by simp)), ih _ _ (fun x hx => h x (by simp [hx]))]
      rfl
theorem psp_n (r : List UInt8) (p : Nat) (l : List UInt8) : psp (110 :: r) p l = if nm l = 0 then [] else (p, p + nm l) :: psp r (p + nm l) (l.drop (nm l)) := by
  rw [psp]; show (match (if nm l = 0 then none else some (nm l)) with | none => [] | some n => (if (110 : Nat) = 110 then [(p, p + n)] else []) ++ psp r (p + n) (l.drop n)) = _
  by_cases h : nm l = 0
  · rw [if_pos h, if_pos h]
  · rw [if_neg h, if_neg h]; rfl
theorem ssp_n (r : List UInt8) (p : Nat) (l : List UInt8) : ssp (110 :: r) p l = if nm l = 0 then [] else (p, p + nm l) :: ssp r (p + nm l) (l.drop (nm l)) := by
  rw [ssp]; show (match (if nm l = 0 then none else some (nm l)) with | none => [] | some n => (if (110 : Nat) = 110 then [(p, p + n)] else []) ++ ssp r (p + n) (l.drop n)) = _
  by_cases h : nm l = 0
  · rw [if_pos h, if_pos h]
  · rw [if_neg h, if_neg h]; rfl
theorem psp_t (r : List UInt8) (p : Nat) (l : List UInt8) : psp (116 :: r) p l = if tx l = 0 then [] else psp r (p + tx l) (l.drop (tx l)) := by
  rw [psp]; show (match (if tx l = 0 then none else some (tx l)) with | none => [] | some n => (if (116 : Nat) = 110 then [(p, p + n)] else []) ++ psp r (p + n) (l.drop n)) = _
  by_cases h : tx l = 0
  · rw [if_pos h, if_pos h]
  · rw [if_neg h, if_neg h]; rfl
theorem ssp_t (r : List UInt8) (p : Nat) (l : List UInt8) : ssp (116 :: r) p l = if tx l = 0 then [] else ssp r (p + tx l) (l.drop (tx l)) := by
  rw [ssp]; show (match (if tx l = 0 then none else some (tx l)) with | none => [] | some n => (if (116 : Nat) = 110 then [(p, p + n)] else []) ++ ssp r (p + n) (l.drop n)) = _
  by_cases h : tx l = 0
  · rw [if_pos h, if_pos h]
  · rw [if_neg h, if_neg h]; rfl
theorem psp_2 (r : List UInt8) (p : Nat) (l : List UInt8) : psp (50 :: r) p l = if l.length < 2 then [] else psp r (p + 2) (l.drop 2) := by
  rw [psp]; show (match (if l.length < 2 then none else some 2) with | none => [] | some n => (if (50 : Nat) = 110 then [(p, p + n)] else []) ++ psp r (p + n) (l.drop n)) = _
  by_cases h : l.length < 2
  · rw [if_pos h, if_pos h]
  · rw [if_neg h, if_neg h]; rfl
theorem ssp_b (r : List UInt8) (p : Nat) (l : List UInt8) : ssp (98 :: r) p l = if l.length < 1 then [] else ssp r (p + 1) (l.drop 1) := by
  rw [ssp]; show (match (if l = [] then none else some 1) with | none => [] | some n => (if (98 : Nat) = 110 then [(p, p + n)] else []) ++ ssp r (p + n) (l.drop n)) = _
  cases l <;> simp
theorem ssp_bb (r : List UInt8) (p : Nat) (l : List UInt8) : ssp (98 :: 98 :: r) p l = if l.length < 2 then [] else ssp r (p + 2) (l.drop 2) := by
  rw [ssp_b, ssp_b, List.length_drop, List.drop_drop]
  by_cases h : l.length < 2
  · rw [if_pos h]
    split
    · rfl
    · rw [if_pos (by omega)]
  · rw [if_neg h, if_neg (by omega), if_neg (by omega)]
/-- The names stand at the same places by both forms of a type. -/
theorem spans_same (t : Int) (p : Nat) (l : List UInt8) : (match formOf t with | none => [] | some f => psp f.data.toList p l) = ssp (sform t) p l := by
  by_cases c1 : t = 1
  · subst c1; show psp [52] p l = ssp [98, 98, 98, 98] p l; rw [psp_no _ _ _ (by decide), ssp_no _ _ _ (by decide)]
  by_cases c2 : t = 2
  · subst c2; show psp [110] p l = ssp [110] p l; rw [psp_n, ssp_n]; rfl
  by_cases c5 : t = 5
  · subst c5; show psp [110] p l = ssp [110] p l; rw [psp_n, ssp_n]; rfl
  by_cases c6 : t = 6
  · subst c6; show psp [110, 110, 103, 103, 103, 103, 113] p l = ssp [110, 110, 98, 98, 98, 98, 98, 98, 98, 98, 98, 98, 98, 98, 98, 98, 98, 98, 98, 98, 98, 98] p l; rw [psp_n, psp_n, ssp_n, ssp_n, psp_no [103, 103, 103, 103, 113] _ _ (by decide), ssp_no [98, 98, 98, 98, 98, 98, 98, 98, 98, 98, 98, 98, 98, 98, 98, 98, 98, 98, 98, 98] _ _ (by decide)]
  by_cases c12 : t = 12
  · subst c12; show psp [110] p l = ssp [110] p l; rw [psp_n, ssp_n]; rfl
  by_cases c13 : t = 13
  · subst c13; show psp [116, 116] p l = ssp [116, 116] p l; rw [psp_no _ _ _ (by decide), ssp_no _ _ _ (by decide)]
  by_cases c15 : t = 15
  · subst c15; show psp [50, 110] p l = ssp [98, 98, 110] p l; rw [psp_2, psp_n, ssp_bb, ssp_n]; rfl
  by_cases c16 : t = 16
  · subst c16; show psp [84] p l = ssp [115] p l; rw [psp_no _ _ _ (by decide), ssp_no _ _ _ (by decide)]
  by_cases c28 : t = 28
  · subst c28; show psp [103, 103, 103, 103] p l = ssp [98, 98, 98, 98, 98, 98, 98, 98, 98, 98, 98, 98, 98, 98, 98, 98] p l; rw [psp_no _ _ _ (by decide), ssp_no _ _ _ (by decide)]
  by_cases c33 : t = 33
  · subst c33; show psp [50, 50, 50, 110] p l = ssp [98, 98, 98, 98, 98, 98, 110] p l; rw [psp_2, psp_2, psp_2, psp_n, ssp_bb, ssp_bb, ssp_bb, ssp_n]; rfl
  by_cases c35 : t = 35
  · subst c35; show psp [50, 50, 116, 116, 116, 110] p l = ssp [98, 98, 98, 98, 116, 116, 116, 110] p l; rw [psp_2, psp_2, psp_t, psp_t, psp_t, psp_n, ssp_bb, ssp_bb, ssp_t, ssp_t, ssp_t, ssp_n]; rfl
  by_cases c39 : t = 39
  · subst c39; show psp [110] p l = ssp [110] p l; rw [psp_n, ssp_n]; rfl
  by_cases c47 : t = 47
  · subst c47; show psp [110, 109] p l = ssp [110, 109] p l; rw [psp_n, ssp_n, psp_no [109] _ _ (by decide), ssp_no [109] _ _ (by decide)]
  by_cases c257 : t = 257
  · subst c257; show psp [49, 99, 42] p l = ssp [98, 99] p l; rw [psp_no _ _ _ (by decide), ssp_no _ _ _ (by decide)]
  have e1 : formOf t = none := by
    unfold formOf
    simp only [if_neg c1, if_neg c2, if_neg c5, if_neg c6, if_neg c12, if_neg c13, if_neg c15, if_neg c16, if_neg c28, if_neg c33, if_neg c35, if_neg c39, if_neg c47, if_neg c257]
  have e2 : sform t = [42] := by
    unfold sform
    rw [if_neg c1, if_neg (show ¬ (t = 2 ∨ t = 5 ∨ t = 12 ∨ t = 39) by omega)]
    simp only [if_neg c6, if_neg c13, if_neg c15, if_neg c16, if_neg c28, if_neg c33, if_neg c35, if_neg c47, if_neg c257]
  rw [e1, e2, ssp_no _ _ _ (by decide)]
/-- The stretches of names in data. -/
def nspans (t : Int) (l : List UInt8) : List (Nat × Nat) := ssp (sform t) 0 l
theorem impl_parsed_f (t : Int) (ht : (Lit.int .i64 t).wf = true) (s : ByteArray) (hs : s.size ≤ 65535) (K : Nat) (hK : 450000000 ≤ K) : ∃ sp, impl_parsed.f K t s = some (sp, spg (sform t) (L s)) ∧ (spg (sform t) (L s) = true → sp = (nspans t (L s)).map fun x => ⟨(x.1 : Int), (x.2 : Int)⟩) := by
  unfold impl_parsed.f
  rw [if_neg (by omega), if_pos ht, ← forms_same, nspans, ← spans_same]
  cases h : formOf t with
  | none => exact ⟨[], rfl, fun _ => rfl⟩
  | some f =>
    obtain ⟨sp, h1, h2⟩ := impl_parsed_go s hs K hK _ 0 [] (letters_of h) (Nat.zero_le _)
    exact ⟨sp, h1, h2⟩
theorem spec_parts_f (t : Int) (s : ByteArray) (hs : s.size ≤ 65535) (K : Nat) (hK : 450000000 ≤ K) : ∃ out, spec_l02Parts.f K (B (sform t)) s = some (out, spg (sform t) (L s)) ∧ (spg (sform t) (L s) = true → out = (sparts (sform t) (L s)).map B) := by
  obtain ⟨h1, h2⟩ := sletters_of t
  have h3 : (B (sform t)).data.toList = sform t := L_B _
  have h4 : (B (sform t)).size = (sform t).length := by rw [size_L, L_B]
  unfold spec_l02Parts.f
  rw [if_neg (by omega), h3]
  exact spec_l02Parts_go K hK _ s [] h1 hs (by simp; omega)
theorem CheckData_both (t : Int) (ht : (Lit.int .i64 t).wf = true) (s : ByteArray) (K : Nat) (hK : 450000001 ≤ K) : ∃ r, spec_CheckData.f K t s = some r ∧ impl_CheckData.f K t s = some r ∧ (r = 0 → spg (sform t) (L s) = true ∧ s.size ≤ 65535) := by
  obtain ⟨K, rfl⟩ : ∃ m, K = m + 1 := ⟨K - 1, by omega⟩
  have key : ∀ b : Bool, ∃ r, spec_CheckData.j0 (K + 1) t s b = some r ∧ impl_CheckData.j0 (K + 1) t s b = some r ∧ (r = 0 → spg (sform t) (L s) = true ∧ s.size ≤ 65535) := by
    intro b
    cases b with
    | true => exact ⟨6, by rw [spec_CheckData.j0, if_pos rfl], by rw [impl_CheckData.j0, if_pos rfl], fun e => by cases e⟩
    | false =>
      have hF : ¬ (false = true) := by decide
      by_cases h : (s.size : Int) > 65535
      · exact ⟨7, by rw [spec_CheckData.j0, if_neg hF, if_pos h], by rw [impl_CheckData.j0, if_neg hF, if_pos h], fun e => by cases e⟩
      · rw [show spec_CheckData.j0 (K + 1) t s false = _ from by rw [spec_CheckData.j0, if_neg hF, if_neg h], show impl_CheckData.j0 (K + 1) t s false = _ from by rw [impl_CheckData.j0, if_neg hF, if_neg h]]
        obtain ⟨out, e1, _⟩ := spec_parts_f t s (by omega) K (by omega)
        obtain ⟨sp, e2, _⟩ := impl_parsed_f t ht s (by omega) K (by omega)
        rw [spec_l02Form_eq t K (by omega), Option.bind_some, e1, e2, Option.bind_some, Option.bind_some]
        cases hp : spg (sform t) (L s)
        · exact ⟨7, rfl, rfl, fun e => by cases e⟩
        · exact ⟨0, rfl, rfl, fun _ => ⟨rfl, by omega⟩⟩
  unfold spec_CheckData.f impl_CheckData.f
  by_cases h : t < 0
  · rw [if_pos h, if_pos h]; exact key true
  · rw [if_neg h, if_neg h]; exact key _
theorem soa_long (l : List UInt8) (h : spg (sform 6) l = true) : 20 ≤ l.length := by
  have h' : spg [110, 110, 98, 98, 98, 98, 98, 98, 98, 98, 98, 98, 98, 98, 98, 98, 98, 98, 98, 98, 98, 98] l = true := h
  rw [spg_n] at h'
  split at h'
  · cases h'
  rw [spg_n] at h'
  split at h'
  · cases h'
  rw [spg_b4] at h'
  split at h'
  · cases h'
  rw [spg_b4] at h'
  split at h'
  · cases h'
  rw [spg_b4] at h'
  split at h'
  · cases h'
  rw [spg_b4] at h'
  split at h'
  · cases h'
  rw [spg_b4] at h'
  split at h'
  · cases h'
  simp only [List.length_drop] at *
  omega

end Go.Proofs.YtbaajohjglhpfaaDoor.Pure
namespace Go.Proofs.YtbaajohjglhpfaaDoor.Pure
open Go.RowKit Go.Proofs.YtbaajohjglhpfaaDoor.F Go.Proofs.YtbaajohjglhpfaaDoor.Base Go.Proofs.YtbaajohjglhpfaaDoorW.PrintWords Go.Proofs.YtbaajohjglhpfaaDoorW.PrintLast Go.Proofs.YtbaajohjglhpfaaDoorW.PrintMore
set_option linter.unusedVariables false
set_option linter.unusedSimpArgs false
-- base: BaseNum
/-- The bytes of a number, the high one first. -/
def be (n : Int) (w : Nat) : List Int := (List.range w).reverse.map fun (i : Nat) => n / 2 ^ (8 * i) % 256
theorem be_succ (n : Int) (w : Nat) : be n (w + 1) = n / 2 ^ (8 * w) % 256 :: be n w := by
  unfold be
  rw [List.range_succ, List.reverse_append]
  rfl
theorem be_length (n : Int) (w : Nat) : (be n w).length = w := by simp [be]
theorem spec_l02Put_l0 (n : Int) : ∀ (d k : Nat) (out : List Int), d ≤ 8 → d < k → out.length + d ≤ 100 → spec_l02Put.l0 k n out ((d : Int) - 1) = some (strOfNums (out ++ be n d)) := by
  intro d
  induction d with
  | zero =>
    intro k out _ hk _
    obtain ⟨k, rfl⟩ : ∃ m, k = m + 1 := ⟨k - 1, by omega⟩
    rw [spec_l02Put.l0, if_neg (by omega)]
    simp [be]
  | succ d ih =>
    intro k out hd hk ho
    obtain ⟨k, rfl⟩ : ∃ m, k = m + 1 := ⟨k - 1, by omega⟩
    have e0 : ((d + 1 : Nat) : Int) - 1 = (d : Int) := by omega
    have e1 : Go.IntKind.u64.wrap (wrap64 (8 * (d : Int))) = ((8 * d : Nat) : Int) := by
      rw [w64 (by omega) (by omega), Go.IntKind.wrap_u64]
      omega
    have e2 : shr .i64 n ((8 * d : Nat) : Int) = n / 2 ^ (8 * d) := by
      unfold shr
      rw [Int.toNat_natCast, Nat.min_eq_left (by show 8 * d ≤ 64; omega)]
    rw [spec_l02Put.l0, e0, if_pos (by omega), e1, if_pos (by omega), if_pos (by omega), e2, w64 (by omega) (by omega), ih k _ (by omega) (by omega) (by simp; omega), be_succ]
    simp
theorem spec_l02Put_eq (n : Int) (w : Nat) (hw : w ≤ 8) (k : Nat) (hk : w < k) : spec_l02Put.f k n (w : Int) = some (strOfNums (be n w)) := by
  unfold spec_l02Put.f
  rw [w64 (by omega) (by omega), spec_l02Put_l0 n w k [] hw hk (by simp; omega)]
  simp

end Go.Proofs.YtbaajohjglhpfaaDoor.Pure
namespace Go.Proofs.YtbaajohjglhpfaaDoor.Pure
open Go.RowKit Go.Proofs.YtbaajohjglhpfaaDoor.F Go.Proofs.YtbaajohjglhpfaaDoor.Base Go.Proofs.YtbaajohjglhpfaaDoorW.PrintWords Go.Proofs.YtbaajohjglhpfaaDoorW.PrintLast Go.Proofs.YtbaajohjglhpfaaDoorW.PrintMore
set_option linter.unusedVariables false
set_option linter.unusedSimpArgs false
theorem be4 (n : Int) : be n 4 = [n / 16777216 % 256, n / 65536 % 256, n / 256 % 256, n % 256] := by
  show [n / 2 ^ 24 % 256, n / 2 ^ 16 % 256, n / 2 ^ 8 % 256, n / 2 ^ 0 % 256] = _
  have p8 : (2 : Int) ^ 8 = 256 := by decide
  have p16 : (2 : Int) ^ 16 = 65536 := by decide
  have p24 : (2 : Int) ^ 24 = 16777216 := by decide
  have p0 : (2 : Int) ^ 0 = 1 := by decide
  rw [p8, p16, p24, p0, Int.ediv_one]
theorem impl_p32_eq (n : Int) (h0 : 0 ≤ n) (h1 : n ≤ 4294967295) : impl_p32.f n = some (strOfNums (be n 4)) := by
  unfold impl_p32.f
  rw [be4, Int.emod_eq_of_lt (a := n) (b := 4294967296) h0 (by omega), Int.emod_eq_of_lt (a := n / 16777216) (b := 256) (by omega) (by omega)]

end Go.Proofs.YtbaajohjglhpfaaDoor.Pure
namespace Go.Proofs.YtbaajohjglhpfaaDoor.Pure
open Go.RowKit Go.Proofs.YtbaajohjglhpfaaDoor.F Go.Proofs.YtbaajohjglhpfaaDoor.Base Go.Proofs.YtbaajohjglhpfaaDoorW.PrintWords Go.Proofs.YtbaajohjglhpfaaDoorW.PrintLast Go.Proofs.YtbaajohjglhpfaaDoorW.PrintMore
set_option linter.unusedVariables false
set_option linter.unusedSimpArgs false
-- base: BaseForm BaseNum
theorem FnExactWithSerial : laws_FnExactWithSerial.Pure := by
  intro s n _ _
  refine ⟨450000001, ?_⟩
  unfold laws_FnExactWithSerial.f
  by_cases h : (s.size : Int) > 1048576
  · rw [if_pos h]
  · obtain ⟨r, e1, e2, e3⟩ := CheckData_both 6 (by decide) s 450000001 (Nat.le_refl _)
    have key : ∃ q, spec_WithSerial.f 450000001 s n = some q ∧ impl_WithSerial.f 450000001 s n = some q := by
      unfold spec_WithSerial.f impl_WithSerial.f
      rw [e1, e2, Option.bind_some, Option.bind_some]
      by_cases hr : r = 0
      · obtain ⟨h1, h2⟩ := e3 hr
        have h3 := soa_long _ h1
        have hs := size_L s
        have w1 : wrap64 ((s.size : Int) - 20) = (s.size : Int) - 20 := w64 (by omega) (by omega)
        have w2 : wrap64 ((s.size : Int) - 16) = (s.size : Int) - 16 := w64 (by omega) (by omega)
        have w3 : wrap64 ((s.size : Int) - 20 + 4) = (s.size : Int) - 16 := by rw [w64 (by omega) (by omega)]; omega
        rw [if_pos hr, if_pos hr, w1, w2, w3]
        by_cases g1 : n < 0
        · exact ⟨_, by rw [if_pos g1], by rw [if_pos g1]⟩
        · rw [if_neg g1, if_neg g1]
          by_cases g2 : n > 4294967295
          · exact ⟨_, by rw [if_pos g2], by rw [if_pos g2]⟩
          · have hz : (strOfNums (be n 4)).size = 4 := by rw [size_L, L_strOfNums, List.length_map, be_length]
            have hx1 : (s.extract 0 ((s.size : Int) - 20).toNat).size = s.size - 20 := by rw [ByteArray.size_extract]; omega
            have hx2 : (s.extract ((s.size : Int) - 16).toNat s.size).size = 16 := by rw [ByteArray.size_extract]; omega
            have e4 := spec_l02Put_eq n 4 (by decide) 450000001 (by decide)
            rw [show ((4 : Nat) : Int) = 4 from rfl] at e4
            rw [if_neg g2, if_neg g2, if_pos (by omega), if_pos (by omega), e4, Option.bind_some, if_pos (by omega), if_pos (by omega), if_pos (by omega), if_pos (by rw [ByteArray.size_append]; omega)]
            refine ⟨_, rfl, ?_⟩
            rw [if_pos (by omega), if_pos (by omega), impl_p32_eq n (by omega) (by omega), Option.bind_some, if_pos (by omega), if_pos (by omega), if_pos (by omega), if_pos (by rw [ByteArray.size_append]; omega)]
      · exact ⟨_, by rw [if_neg hr], by rw [if_neg hr]⟩
    obtain ⟨q, q1, q2⟩ := key
    rw [if_neg h, q1, Option.bind_some, q2, Option.bind_some, if_pos rfl, if_pos rfl]

end Go.Proofs.YtbaajohjglhpfaaDoor.Pure
namespace Go.Proofs.YtbaajohjglhpfaaDoor.fnExactWithSerial
open Go.ChangeShapes Go.WideShapes Go.ChangeAt Go.RowKit
open Go.ChangeMaps (open_string shut_string)
set_option linter.unusedVariables false
theorem laidOut : laidOutB Tryd.prog = true := by kernel_rfl
theorem own : ownKnob Tryd.prog.godebug = none := by kernel_rfl
set_option maxRecDepth 100000 in
theorem lifted (os : Os) (started : os.Started) (H : Type) (enc : TypeId × Value → H) :
    ReturnsInHanded {} Tryd.checked os 5 .any (fun w args => (Rows.fnExactWithSerialSpec.pre enc Tryd.prog Tryd.f5 [] false w args ∧ laidMetH Tryd.prog (XGlob.laidF (H := Unit)) w) ∧ sizedMet enc Tryd.prog Tryd.f5 (OpenSpec.ofChange Rows.fnExactWithSerialSpec) false w args) (Rows.fnExactWithSerialSpec.post enc Tryd.prog Tryd.f5 false true false false) := by
  refine returnsInHanded_of_change_and (C := Tryd.checked) (X := fun w _ => laidMetH Tryd.prog (XGlob.laidF (H := Unit)) w) (fun _ _ _ hh h => h.of_heap hh) own started (by kernel_rfl) Tryd.func5
    (ChangeSpec.witness_shaped (enc := enc) (C := Tryd.checked) (os := os) (X := fun w _ => laidMetH Tryd.prog (XGlob.laidF (H := Unit)) w) false (World.doorLaid Tryd.prog 84 os) #[.string ByteArray.empty, .int .i64 0] 8 rfl (World.shaped_of_RefB (by kernel_rfl) (by kernel_rfl)) (by kernel_rfl) (by kernel_rfl) (by kernel_rfl) (XGlob.door_met os _)) ?_
  intro W base args ds gs before hval0 hW hcnd hsz0 hL _
  have hsz : (DataW.weightsEach Tryd.prog (Tryd.f5.params.toList ++ Rows.fnExactWithSerialSpec.plain.varTypes Tryd.prog) (ds ++ gs)).all (· ≤ reachBytes) = true := hsz0
  have hval : ∀ (j : Nat) t v, Tryd.f5.params[j]? = some t → args[j]? = some v → Value.okWide Tryd.prog W .any base t v := hval0
  have hW' := hW
  obtain ⟨p, q, hA0, hV, rfl, hfz, hnd⟩ := hW
  have hA : DataW.TrodAll enc Tryd.prog W 0 (fun _ => true) true Tryd.f5.params.toList args.toList ds p := hA0
  rw [Tryd.params5] at hA hval hsz
  obtain ⟨v0, vs0, d0, ds0, p0, q0, hargs, rfl, rfl, h0, r0⟩ := trodAll_cons hA
  obtain ⟨v1, vs1, d1, ds1, p1, q1, rfl, rfl, rfl, h1, r1⟩ := trodAll_cons r0
  obtain ⟨rfl, rfl, rfl⟩ := trodAll_nil r1
  obtain rfl : args = #[v0, v1] := by cases args; simp_all
  have hV2 := hV
  obtain ⟨gg, tt, cs, fuel, dg, pg, rfl, hg1, hg2, hg3, hg4, rfl⟩ := trodVars_one hV
  obtain ⟨a0, rfl, rfl, rfl, y0⟩ := open_string Tryd.underlying9 (hval 0 9 v0 rfl rfl) h0
  have w0 : a0.size ≤ 140737488351232 := by
    have z := sized_string hsz (j := 0) (t := 9) rfl rfl
    rw [Array.length_toList] at z
    exact z
  obtain ⟨a1, rfl, rfl, rfl, w1⟩ := open_int Tryd.underlying2 (hval 1 2 v1 rfl rfl) h1
  clear hA0 hval0 hsz0 hsz
  refine (F.laws_FnExactWithSerial.walk Pure.FnExactWithSerial a0 a1 W w0 w1 (XGlob.glob_of_laid hL)).mono fun e W' ⟨he, bel⟩ => ?_
  subst he
  exact ⟨_, rfl, _, _, _, [], _, _, hW', trodAll_mk1 (shut_bool Tryd.underlying4 _), (trodAll_cons_mk (shut_string Tryd.underlying9 y0) (trodAll_cons_mk (shut_int Tryd.underlying2 w1) trodAll_mk0)), bel.trodVars laidOut (by kernel_rfl) hV2, bel.frame _, fun h => by cases h⟩
theorem over : Rows.fnExactWithSerialRow.holds Tryd.pinned (OpenSpec.ofChange Rows.fnExactWithSerialSpec) :=
  OpenClaim.holds_of_wide 5 Tryd.f5 rfl rfl rfl rfl rfl rfl rfl ⟨rfl, rfl, rfl, rfl, rfl⟩ rfl rfl rfl rfl rfl (by kernel_rfl) Tryd.func5 (by kernel_rfl)
    (of_decide_eq_true (by kernel_rfl)) (by unfold Func.isWrapper; first | (rw [if_pos (by decide +kernel)]; kernel_rfl) | (rw [if_neg (by decide +kernel)]; exact ⟨rfl, rfl⟩))
    (fun os started H enc _ => lifted os started H enc)
end Go.Proofs.YtbaajohjglhpfaaDoor.fnExactWithSerial
namespace Go.Proofs.YtbaajohjglhpfaaDoor
open Go
/-- The tied card. -/
theorem fnExactWithSerial_holds : Rows.FnExactWithSerialCardSaid :=
  Claim7.holds_tied_plain_at .later [] [.mapped] true (true, "a71cce0d9c634e1873534bc5148387056bf8f9a90435827dabebf7fd23b2ae95") false
    fnExactWithSerial.over (fun _ h => by cases h) (by kernel_rfl) (fun _ h => by cases h) fnExactWithSerial_row_tie rfl ⟨rfl, rfl⟩ (by kernel_rfl) rfl
    (fun f fn hf hfn => by
      obtain rfl : f = 5 := Option.some.inj ((show Tryd.prog.funcNamed "loop.example/s01858/laws.FnExactWithSerial" = some 5 by kernel_rfl).symm.trans hf) |>.symm
      obtain rfl : fn = Tryd.f5 := (Option.some.inj (Tryd.func5.symm.trans hfn)).symm
      exact ⟨by kernel_rfl, fun j t ht => by
        rw [Tryd.params5] at ht
        have hm : t ∈ [9, 2] := by simpa using Array.mem_of_getElem? ht
        have hall : ([9, 2].all fun u => !Tryd.prog.wantsStandIn u) = true := by kernel_rfl
        exact (show Tryd.prog.wantsStandIn t = false by simpa using List.all_eq_true.1 hall t hm)⟩)
    (by kernel_rfl)
#print axioms fnExactWithSerial_holds
end Go.Proofs.YtbaajohjglhpfaaDoor
