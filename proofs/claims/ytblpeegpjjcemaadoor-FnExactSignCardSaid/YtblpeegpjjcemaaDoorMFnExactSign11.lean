/- Part 11 of 13 of the proof of FnExactSign: what each Go function on its way computes, that the Go code does just this, and what the law says of it. No condition beyond the statement's own. -/
import Derived.Test.YtblpeegpjjcemaaDoorMFnExactSign10
namespace Go.Proofs.YtblpeegpjjcemaaDoor.F
open Go Go.Shelf Go.RowKit Go.Proofs.YtblpeegpjjcemaaDoorW.PrintWords Go.Proofs.YtblpeegpjjcemaaDoorW.PrintLast Go.Proofs.YtblpeegpjjcemaaDoorW.PrintMore
attribute [local go_sem] max2_int min2_int max_two min_two max_three min_three max_four min_four   -- for this text's walks alone
set_option linter.unusedVariables false
set_option linter.unusedSimpArgs false

/-! ### impl_Sign: function 16 -/
def impl_Sign.j0 : Nat → List Int → Int → ByteArray → Bool → ByteArray → ByteArray → Option (List Int × Int)
  | 0, _, _, _, _, _, _ => none
  | k + 1, x0, x2, x3, x31, x102000, x102001 => if x31 = true then (some (([] : List Int), 32)) else (if 10 ≤ ((strOfNums x0).size : Int) then ((impl_u16.f ((strOfNums x0).extract 10 (strOfNums x0).size)).bind fun t104 => (if t104 = 65535 then (some (([] : List Int), 12)) else ((impl_p48.f x2).bind fun t105 => (if 13 + t105.size ≤ 9223372036854775807 then (if ((⟨#[11, 104, 109, 97, 99, 45, 115, 104, 97, 50, 53, 54, 0]⟩ : ByteArray) ++ t105).size + 2 ≤ 9223372036854775807 then (if (((⟨#[11, 104, 109, 97, 99, 45, 115, 104, 97, 50, 53, 54, 0]⟩ : ByteArray) ++ t105) ++ (⟨#[1, 44]⟩ : ByteArray)).size + 2 ≤ 9223372036854775807 then ((impl_p48.f x2).bind fun t106 => ((impl_sumOf.f x102000 x102001 (strOfNums x0) x3 t106 (⟨#[1, 44]⟩ : ByteArray)).bind fun t107 => (if ((((⟨#[11, 104, 109, 97, 99, 45, 115, 104, 97, 50, 53, 54, 0]⟩ : ByteArray) ++ t105) ++ (⟨#[1, 44]⟩ : ByteArray)) ++ (⟨#[0, 32]⟩ : ByteArray)).size + t107.size ≤ 9223372036854775807 then (if 0 ≤ 2 then (if 2 ≤ ((strOfNums x0).size : Int) then (if (((((⟨#[11, 104, 109, 97, 99, 45, 115, 104, 97, 50, 53, 54, 0]⟩ : ByteArray) ++ t105) ++ (⟨#[1, 44]⟩ : ByteArray)) ++ (⟨#[0, 32]⟩ : ByteArray)) ++ t107).size + ((strOfNums x0).extract 0 2).size ≤ 9223372036854775807 then (if ((((((⟨#[11, 104, 109, 97, 99, 45, 115, 104, 97, 50, 53, 54, 0]⟩ : ByteArray) ++ t105) ++ (⟨#[1, 44]⟩ : ByteArray)) ++ (⟨#[0, 32]⟩ : ByteArray)) ++ t107) ++ ((strOfNums x0).extract 0 2)).size + 4 ≤ 9223372036854775807 then (if 0 ≤ 10 then ((impl_p16.f (wrap64 (t104 + 1))).bind fun t108 => (if ((strOfNums x0).extract 0 10).size + t108.size ≤ 9223372036854775807 then (if 12 ≤ ((strOfNums x0).size : Int) then (if (((strOfNums x0).extract 0 10) ++ t108).size + ((strOfNums x0).extract 12 (strOfNums x0).size).size ≤ 9223372036854775807 then (if ((((strOfNums x0).extract 0 10) ++ t108) ++ ((strOfNums x0).extract 12 (strOfNums x0).size)).size + x102000.size ≤ 9223372036854775807 then ((impl_p16.f 250).bind fun t109 => (if (((((strOfNums x0).extract 0 10) ++ t108) ++ ((strOfNums x0).extract 12 (strOfNums x0).size)) ++ x102000).size + t109.size ≤ 9223372036854775807 then ((impl_p16.f 255).bind fun t110 => (if ((((((strOfNums x0).extract 0 10) ++ t108) ++ ((strOfNums x0).extract 12 (strOfNums x0).size)) ++ x102000) ++ t109).size + t110.size ≤ 9223372036854775807 then ((impl_p32.f 0).bind fun t111 => (if (((((((strOfNums x0).extract 0 10) ++ t108) ++ ((strOfNums x0).extract 12 (strOfNums x0).size)) ++ x102000) ++ t109) ++ t110).size + t111.size ≤ 9223372036854775807 then ((impl_p16.f ((((((((⟨#[11, 104, 109, 97, 99, 45, 115, 104, 97, 50, 53, 54, 0]⟩ : ByteArray) ++ t105) ++ (⟨#[1, 44]⟩ : ByteArray)) ++ (⟨#[0, 32]⟩ : ByteArray)) ++ t107) ++ ((strOfNums x0).extract 0 2)) ++ (⟨#[0, 0, 0, 0]⟩ : ByteArray)).size : Int)).bind fun t112 => (if ((((((((strOfNums x0).extract 0 10) ++ t108) ++ ((strOfNums x0).extract 12 (strOfNums x0).size)) ++ x102000) ++ t109) ++ t110) ++ t111).size + t112.size ≤ 9223372036854775807 then (if (((((((((strOfNums x0).extract 0 10) ++ t108) ++ ((strOfNums x0).extract 12 (strOfNums x0).size)) ++ x102000) ++ t109) ++ t110) ++ t111) ++ t112).size + (((((((⟨#[11, 104, 109, 97, 99, 45, 115, 104, 97, 50, 53, 54, 0]⟩ : ByteArray) ++ t105) ++ (⟨#[1, 44]⟩ : ByteArray)) ++ (⟨#[0, 32]⟩ : ByteArray)) ++ t107) ++ ((strOfNums x0).extract 0 2)) ++ (⟨#[0, 0, 0, 0]⟩ : ByteArray)).size ≤ 9223372036854775807 then (if (((((((((((strOfNums x0).extract 0 10) ++ t108) ++ ((strOfNums x0).extract 12 (strOfNums x0).size)) ++ x102000) ++ t109) ++ t110) ++ t111) ++ t112) ++ (((((((⟨#[11, 104, 109, 97, 99, 45, 115, 104, 97, 50, 53, 54, 0]⟩ : ByteArray) ++ t105) ++ (⟨#[1, 44]⟩ : ByteArray)) ++ (⟨#[0, 32]⟩ : ByteArray)) ++ t107) ++ ((strOfNums x0).extract 0 2)) ++ (⟨#[0, 0, 0, 0]⟩ : ByteArray))).size : Int) > 65535 then (some (([] : List Int), 11)) else ((xbytes.f ((((((((((strOfNums x0).extract 0 10) ++ t108) ++ ((strOfNums x0).extract 12 (strOfNums x0).size)) ++ x102000) ++ t109) ++ t110) ++ t111) ++ t112) ++ (((((((⟨#[11, 104, 109, 97, 99, 45, 115, 104, 97, 50, 53, 54, 0]⟩ : ByteArray) ++ t105) ++ (⟨#[1, 44]⟩ : ByteArray)) ++ (⟨#[0, 32]⟩ : ByteArray)) ++ t107) ++ ((strOfNums x0).extract 0 2)) ++ (⟨#[0, 0, 0, 0]⟩ : ByteArray)))).bind fun t113 => (some (t113, 0)))) else (none)) else (none))) else (none))) else (none))) else (none))) else (none)) else (none)) else (none)) else (none))) else (none)) else (none)) else (none)) else (none)) else (none)) else (none)))) else (none)) else (none)) else (none))))) else (none))
def impl_Sign.f (k : Nat) (l0 : List Int) (a1_0 : ByteArray) (a1_1 : ByteArray) (a2 : Int) (a3 : ByteArray) : Option (List Int × Int) := if (l0.length : Int) < 12 then (impl_Sign.j0 k l0 a2 a3 true a1_0 a1_1) else ((impl_keyOk.f k a1_0 a1_1).bind fun t102 => (if t102 = true then ((impl_within.f a2 0 281474976710655).bind fun t103 => (if t103 = true then (impl_Sign.j0 k l0 a2 a3 (decide ((a3.size : Int) > 32)) a1_0 a1_1) else (impl_Sign.j0 k l0 a2 a3 true a1_0 a1_1))) else (impl_Sign.j0 k l0 a2 a3 true a1_0 a1_1)))
theorem impl_Sign.mono_l : ∀ k, (∀ y0 y1 y2 y3 y4 y5, LeO (impl_Sign.j0 k y0 y1 y2 y3 y4 y5) (impl_Sign.j0 (k + 1) y0 y1 y2 y3 y4 y5))
  | 0 => fun _ _ _ _ _ _ r h => by simp [impl_Sign.j0] at h
  | k + 1 => by
    have ih0 := impl_Sign.mono_l k
    · intro y0 y1 y2 y3 y4 y5
      unfold impl_Sign.j0
      repeat' first
      | (with_reducible exact ih0 _ _ _ _ _ _)
      | (with_reducible exact impl_keyOk.mono _ _ _)
      | (with_reducible exact LeO.refl _)
      | (with_reducible exact LeO.none _)
      | (with_reducible refine LeO.ite ?_ ?_)
      | (with_reducible refine LeO.bind ?_ (fun _ => ?_))
      | exact ih0 _ _ _ _ _ _
      | exact impl_keyOk.mono _ _ _
      | exact LeO.none _
      | refine LeO.ite ?_ ?_
      | refine LeO.bind ?_ (fun _ => ?_)
theorem impl_Sign.mono : ∀ a0 a1 a2 a3 a4 k, LeO (impl_Sign.f k a0 a1 a2 a3 a4) (impl_Sign.f (k + 1) a0 a1 a2 a3 a4) := by
  intro a0 a1 a2 a3 a4 k
  have ih0 := impl_Sign.mono_l k
  unfold impl_Sign.f
  repeat' first
      | (with_reducible exact ih0 _ _ _ _ _ _)
      | (with_reducible exact impl_keyOk.mono _ _ _)
      | (with_reducible exact LeO.refl _)
      | (with_reducible exact LeO.none _)
      | (with_reducible refine LeO.ite ?_ ?_)
      | (with_reducible refine LeO.bind ?_ (fun _ => ?_))
      | exact ih0 _ _ _ _ _ _
      | exact impl_keyOk.mono _ _ _
      | exact LeO.none _
      | refine LeO.ite ?_ ?_
      | refine LeO.bind ?_ (fun _ => ?_)
def impl_Sign.T7 : Bool × List (List Nat × List Nat) := (true, [([], []), ([0], [0]), ([1], [1]), ([2], [2]), ([3], [3]), ([], []), ([], []), ([], []), ([], []), ([8, 1], [8]), ([5, 6, 7, 9, 9], [5, 6, 7, 9]), ([4, 10], [4, 10]), ([], []), ([12], [12]), ([11, 13], [11, 13]), ([14], [14]), ([15, 10, 0, 1, 2, 3, 4, 5, 6, 7, 8, 9, 10, 11, 12, 13, 14, 15], [15])])
def impl_Sign.B7 : List Nat := [0, 1, 3, 7, 15, 0, 0, 0, 0, 259, 995, 2047, 0, 4096, 16383, 32767, 65535]
theorem impl_Sign.tab7 : rtab .any (opsOf Tryd.f16 7) = impl_Sign.T7 := by kernel_rfl
theorem impl_Sign.bits7 : waitsOk impl_Sign.T7.2 impl_Sign.B7 = true := by kernel_rfl
def impl_Sign.T8 : Bool × List (List Nat × List Nat) := (true, [([], []), ([0], [0]), ([], []), ([2], [2]), ([3], [3]), ([1, 4], [1, 4]), ([], []), ([6], [6]), ([5, 7], [5, 7]), ([], []), ([9], [9]), ([8, 10], [8, 10]), ([4], []), ([11, 12], [11, 12]), ([12], []), ([13, 14], [13, 14]), ([14], []), ([15, 16], [15, 16]), ([], []), ([18], [18]), ([19, 16], [19]), ([17, 20], [17, 20]), ([], []), ([21, 22], [21, 22]), ([23, 20, 0, 1, 2, 3, 4, 5, 6, 7, 8, 9, 10, 11, 12, 13, 14, 15, 16, 17, 18, 19, 20, 21, 22, 23], [23])])
def impl_Sign.B8 : List Nat := [0, 1, 0, 4, 12, 31, 0, 64, 255, 0, 512, 2047, 28, 8191, 4124, 32767, 20508, 131071, 0, 262144, 872476, 2097151, 0, 8388607, 16777215]
theorem impl_Sign.tab8 : rtab .any (opsOf Tryd.f16 8) = impl_Sign.T8 := by kernel_rfl
theorem impl_Sign.bits8 : waitsOk impl_Sign.T8.2 impl_Sign.B8 = true := by kernel_rfl
set_option maxHeartbeats 8000000 in
set_option maxRecDepth 100000 in
theorem impl_Sign.calls (k : Nat) (A0 : Option Addr) (c0 : Nat) (l0 : List Int) (a1_0 : ByteArray) (a1_1 : ByteArray) (a2 : Int) (a3 : ByteArray) (r1 : List Int) (r2 : Int) (w : World) (hr0 : Kd.C (Kd.int .u8) w A0 l0.length l0) (hc0 : l0.length ≤ c0) (h : impl_Sign.f k l0 a1_0 a1_1 a2 a3 = some (r1, r2)) (hGK : GlobK w) :
    Calls Tryd.prog 16 #[.slice A0 l0.length c0, .agg #[.string a1_0, .string a1_1], .int .i64 a2, .string a3] w fun e w' => ∃ v0_ : Value, e = .returned (.tuple #[v0_, .int .i64 r2]) ∧ KB.R (Kd.int .u8) 5 w' w.heap.size (fun _ => True) v0_ r1 ∧ Below w.heap.size w w' := by
  have HGK := Aside0.mk hGK
  clear hGK
  have hu35 := Tryd.underlying35
  have HR0 := Aside0.mk hr0
  have HC0 := Aside0.mk hc0
  clear hr0 hc0
  have HB := Aside0.mk (Below.refl w.heap.size w)
  have H : (if (l0.length : Int) < 12 then (impl_Sign.j0 k l0 a2 a3 true a1_0 a1_1) else ((impl_keyOk.f k a1_0 a1_1).bind fun t102 => (if t102 = true then ((impl_within.f a2 0 281474976710655).bind fun t103 => (if t103 = true then (impl_Sign.j0 k l0 a2 a3 (decide ((a3.size : Int) > 32)) a1_0 a1_1) else (impl_Sign.j0 k l0 a2 a3 true a1_0 a1_1))) else (impl_Sign.j0 k l0 a2 a3 true a1_0 a1_1)))) = some (r1, r2) := h
  clear h
  have HC5 := Aside0.mk H
  clear H
  go_enter Tryd.func16, Tryd.ntmps16
  go_upto_region 1 with (first | ((with_reducible refine gate_dst (N := 5) rfl ?_); (try (refine gate_guard (by rfl) ?_; dsimp only)); refine box_event ?hg (N := 5) ?hd (cs := #[.string a1_0, .string a1_1]) (t := 35) ?hr ?_; (case hd => rfl); (case hg => rfl); (case hr => first | (go_simp; done) | (go_simp; rfl)); intro gb101 hg w6 hbox hb; have n0_ := Aside0.mk (below_step (by repeat (first | (with_reducible first | exact HB.out | apply below_alloc | apply pw_below_drewN | apply below_drew1) | exact HB.out)) hb); have n1_ := Aside0.mk (hbox); have n2_ := Aside0.mk ((by rw [hg]; exact (below_size (by repeat (first | (with_reducible first | exact HB.out | apply below_alloc | apply pw_below_drewN | apply below_drew1) | exact HB.out))) : w.heap.size ≤ gb101)); have n3_ := Aside0.mk ((by rw [hg]; exact (below_size (by repeat (first | (with_reducible first | exact HB.out | apply below_alloc | apply pw_below_drewN | apply below_drew1) | exact HB.out))) : w.heap.size ≤ gb101)); clear HB; have HB := n0_; have BK101 := n1_; have GW101 := n2_; have GE101 := n3_; clear n0_ n1_ n2_ n3_; clear hb hbox hg))
  (try simp only [Act.put, List.setIfInBounds_toArray, List.set_cons_zero, List.set_cons_succ])
  go_cut [31] (fun v31 wc => ∃ (kq : Nat) (x31_4 : Bool), v31 = .bool x31_4 ∧ Aside0 (impl_Sign.j0 kq l0 a2 a3 x31_4 a1_0 a1_1 = some (r1, r2)) ∧ Aside0 (kq ≤ k) ∧ Aside0 (wc.heap[gb101]? = some (.cells #[.string a1_0, .string a1_1] 35 (0, 0))) ∧ Aside0 (Below w.heap.size w wc))
  case first =>
    have H := HC5.out
    clear HC5
    by_cases c7 : (l0.length : Int) < 12
    · rw [if_pos c7] at H
      have c7b0 : decide ((l0.length : Int) < 12) = true := decide_eq_true c7
      have c7b1 : decide (l0.length < 12) = true := decide_eq_true (by omega)
      clear c7
      (first | rw [c7b0] | (simp only [i64_w, i32_w]; rw [c7b0]) | skip)
      have H' := Aside0.mk H
      clear H
      go_wp2
      go_meet
      case rel => exact ⟨_, (true), (by first | rfl | (simp; done) | (simp [*]; done)), H', ⟨by first | omega | exact Nat.le_refl _⟩, ⟨by (with_reducible repeat (first | refine blk_drewN ?_ _ | refine blk_drew ?_ | refine blk_alloc ?_ _)); exact BK101.out⟩, ⟨by repeat (first | (with_reducible first | exact HB.out | apply below_alloc | apply pw_below_drewN | apply below_drew1 | refine below_set ?_ GE101.out) | exact HB.out)⟩⟩
    · rw [if_neg c7] at H
      have c7b0 : decide ((l0.length : Int) < 12) = false := decide_eq_false c7
      have c7b1 : decide (l0.length < 12) = false := decide_eq_false (by omega)
      clear c7
      (first | rw [c7b0] | (simp only [i64_w, i32_w]; rw [c7b0]) | skip)
      replace H := Option.bind_eq_some_iff.mp H
      obtain ⟨t102, A80, H⟩ := H
      replace H : (if t102 = true then ((impl_within.f a2 0 281474976710655).bind fun t103 => (if t103 = true then (impl_Sign.j0 k l0 a2 a3 (decide ((a3.size : Int) > 32)) a1_0 a1_1) else (impl_Sign.j0 k l0 a2 a3 true a1_0 a1_1))) else (impl_Sign.j0 k l0 a2 a3 true a1_0 a1_1)) = some (r1, r2) := H
      have A8 := Aside0.mk A80
      clear A80
      by_cases c9 : t102 = true
      · subst c9
        have H1 : ((impl_within.f a2 0 281474976710655).bind fun t103 => (if t103 = true then (impl_Sign.j0 k l0 a2 a3 (decide ((a3.size : Int) > 32)) a1_0 a1_1) else (impl_Sign.j0 k l0 a2 a3 true a1_0 a1_1))) = some (r1, r2) := by rw [if_pos rfl] at H; exact H
        clear H
        have H := H1
        clear H1
        replace H := Option.bind_eq_some_iff.mp H
        obtain ⟨t103, A100, H⟩ := H
        replace H : (if t103 = true then (impl_Sign.j0 k l0 a2 a3 (decide ((a3.size : Int) > 32)) a1_0 a1_1) else (impl_Sign.j0 k l0 a2 a3 true a1_0 a1_1)) = some (r1, r2) := H
        have A10 := Aside0.mk A100
        clear A100
        by_cases c11 : t103 = true
        · subst c11
          have H1 : (impl_Sign.j0 k l0 a2 a3 (decide ((a3.size : Int) > 32)) a1_0 a1_1) = some (r1, r2) := by rw [if_pos rfl] at H; exact H
          clear H
          have H := H1
          clear H1
          have H' := Aside0.mk H
          clear H
          have hcz12_0 : w6.cell? ⟨gb101, 0, none⟩ = some (.string a1_0) := (blk_cell BK101.out 0).trans rfl
          have hcz12_1 : w6.cell? ⟨gb101, 1, none⟩ = some (.string a1_1) := (blk_cell BK101.out 1).trans rfl
          have hfz12_0 := blk_frozen BK101.out 0
          have hfz12_1 := blk_frozen BK101.out 1
          go_wp2_with (first | (go_at_call 34; (with_reducible refine (impl_keyOk.calls k a1_0 a1_1 true _ A8.out).mono ?_); rintro e w13 ⟨rfl, hb⟩; have n0_ := Aside0.mk (blk_below (g := gb101) (o := .cells #[.string a1_0, .string a1_1] 35 (0, 0)) (by (with_reducible repeat (first | refine blk_drewN ?_ _ | refine blk_drew ?_ | refine blk_alloc ?_ _)); exact BK101.out) hb); have n1_ := Aside0.mk (below_step (by repeat (first | (with_reducible first | exact HB.out | apply below_alloc | apply pw_below_drewN | apply below_drew1 | refine below_set ?_ GE101.out) | exact HB.out)) hb); clear BK101; clear HB; have BK101 := n0_; have HB := n1_; clear n0_ n1_; (try clear hb); (try clear hb2); (try clear hk); (try clear hi)) | (go_at_call 35; (with_reducible refine (impl_within.calls a2 0 281474976710655 true _ A10.out).mono ?_); rintro e w' ⟨rfl, ⟨nd, rfl⟩⟩))
          go_meet
          case rel => exact ⟨_, (decide ((a3.size : Int) > 32)), (by first | rfl | (simp; done) | (simp [*]; done)), H', ⟨by first | omega | exact Nat.le_refl _⟩, ⟨by (with_reducible repeat (first | refine blk_drewN ?_ _ | refine blk_drew ?_ | refine blk_alloc ?_ _)); exact BK101.out⟩, ⟨by repeat (first | (with_reducible first | exact HB.out | apply below_alloc | apply pw_below_drewN | apply below_drew1 | refine below_set ?_ GE101.out) | exact HB.out)⟩⟩
        · replace c11 := Bool.eq_false_iff.mpr c11
          subst c11
          have H1 : (impl_Sign.j0 k l0 a2 a3 true a1_0 a1_1) = some (r1, r2) := by rw [if_neg (show ¬ (false = true) by decide)] at H; exact H
          clear H
          have H := H1
          clear H1
          have H' := Aside0.mk H
          clear H
          have hcz14_0 : w6.cell? ⟨gb101, 0, none⟩ = some (.string a1_0) := (blk_cell BK101.out 0).trans rfl
          have hcz14_1 : w6.cell? ⟨gb101, 1, none⟩ = some (.string a1_1) := (blk_cell BK101.out 1).trans rfl
          have hfz14_0 := blk_frozen BK101.out 0
          have hfz14_1 := blk_frozen BK101.out 1
          go_wp2_with (first | (go_at_call 34; (with_reducible refine (impl_keyOk.calls k a1_0 a1_1 true _ A8.out).mono ?_); rintro e w15 ⟨rfl, hb⟩; have n0_ := Aside0.mk (blk_below (g := gb101) (o := .cells #[.string a1_0, .string a1_1] 35 (0, 0)) (by (with_reducible repeat (first | refine blk_drewN ?_ _ | refine blk_drew ?_ | refine blk_alloc ?_ _)); exact BK101.out) hb); have n1_ := Aside0.mk (below_step (by repeat (first | (with_reducible first | exact HB.out | apply below_alloc | apply pw_below_drewN | apply below_drew1 | refine below_set ?_ GE101.out) | exact HB.out)) hb); clear BK101; clear HB; have BK101 := n0_; have HB := n1_; clear n0_ n1_; (try clear hb); (try clear hb2); (try clear hk); (try clear hi)) | (go_at_call 35; (with_reducible refine (impl_within.calls a2 0 281474976710655 false _ A10.out).mono ?_); rintro e w' ⟨rfl, ⟨nd, rfl⟩⟩))
          go_meet
          case rel => exact ⟨_, (true), (by first | rfl | (simp; done) | (simp [*]; done)), H', ⟨by first | omega | exact Nat.le_refl _⟩, ⟨by (with_reducible repeat (first | refine blk_drewN ?_ _ | refine blk_drew ?_ | refine blk_alloc ?_ _)); exact BK101.out⟩, ⟨by repeat (first | (with_reducible first | exact HB.out | apply below_alloc | apply pw_below_drewN | apply below_drew1 | refine below_set ?_ GE101.out) | exact HB.out)⟩⟩
      · replace c9 := Bool.eq_false_iff.mpr c9
        subst c9
        have H1 : (impl_Sign.j0 k l0 a2 a3 true a1_0 a1_1) = some (r1, r2) := by rw [if_neg (show ¬ (false = true) by decide)] at H; exact H
        clear H
        have H := H1
        clear H1
        have H' := Aside0.mk H
        clear H
        have hcz16_0 : w6.cell? ⟨gb101, 0, none⟩ = some (.string a1_0) := (blk_cell BK101.out 0).trans rfl
        have hcz16_1 : w6.cell? ⟨gb101, 1, none⟩ = some (.string a1_1) := (blk_cell BK101.out 1).trans rfl
        have hfz16_0 := blk_frozen BK101.out 0
        have hfz16_1 := blk_frozen BK101.out 1
        go_wp2_with (first | (go_at_call 34; (with_reducible refine (impl_keyOk.calls k a1_0 a1_1 false _ A8.out).mono ?_); rintro e w17 ⟨rfl, hb⟩; have n0_ := Aside0.mk (blk_below (g := gb101) (o := .cells #[.string a1_0, .string a1_1] 35 (0, 0)) (by (with_reducible repeat (first | refine blk_drewN ?_ _ | refine blk_drew ?_ | refine blk_alloc ?_ _)); exact BK101.out) hb); have n1_ := Aside0.mk (below_step (by repeat (first | (with_reducible first | exact HB.out | apply below_alloc | apply pw_below_drewN | apply below_drew1 | refine below_set ?_ GE101.out) | exact HB.out)) hb); clear BK101; clear HB; have BK101 := n0_; have HB := n1_; clear n0_ n1_; (try clear hb); (try clear hb2); (try clear hk); (try clear hi)))
        go_meet
        case rel => exact ⟨_, (true), (by first | rfl | (simp; done) | (simp [*]; done)), H', ⟨by first | omega | exact Nat.le_refl _⟩, ⟨by (with_reducible repeat (first | refine blk_drewN ?_ _ | refine blk_drew ?_ | refine blk_alloc ?_ _)); exact BK101.out⟩, ⟨by repeat (first | (with_reducible first | exact HB.out | apply below_alloc | apply pw_below_drewN | apply below_drew1 | refine below_set ?_ GE101.out) | exact HB.out)⟩⟩
  case rest =>
    clear HC5
    try clear c1
    try clear p2
    try clear c7
    try clear c7b0
    try clear c7b1
    try clear c9
    try clear c11
    try clear c16
    try clear hcz12_0
    try clear hcz12_1
    try clear hcz14_0
    try clear hcz14_1
    try clear hcz16_0
    try clear hcz16_1
    try clear hfz12_0
    try clear hfz12_1
    try clear hfz14_0
    try clear hfz14_1
    try clear hfz16_0
    try clear hfz16_1
    obtain ⟨kq, x31_4, rfl, HA, HJ4, BK101, HB⟩ := hcut
    cases kq with
    | zero => exact absurd HA.out (by simp [impl_Sign.j0])
    | succ kj4 =>
      have H := HA.out
      clear HA
      simp only [impl_Sign.j0] at H
      by_cases c18 : x31_4 = true
      · subst c18
        have H1 : (some (([] : List Int), 32)) = some (r1, r2) := by rw [if_pos rfl] at H; exact H
        clear H
        have H := H1
        clear H1
        simp only [Option.some.injEq, Prod.mk.injEq] at H
        obtain ⟨rfl, rfl⟩ := H
        go_wp2
        go_ret2
        exact ⟨_, by first | rfl | (simp [errW_none, errW_some] <;> rfl) | (simp [*, errW_none, errW_some] <;> rfl), by first | exact KB.R_nil _ _ _ _ _ | exact Kd.N_nil _ _ _ _ _ | exact Kd.V_nil _ _ _ _ _ | exact Kd.Q_nil _ _ _ _ _ | exact Kd.S_nil _ _ _ _ _, by repeat (first | (with_reducible first | exact HB.out | apply below_alloc | apply pw_below_drewN | apply below_drew1 | refine below_set ?_ GE101.out) | exact HB.out)⟩
      · replace c18 := Bool.eq_false_iff.mpr c18
        subst c18
        have H1 : (if 10 ≤ ((strOfNums l0).size : Int) then ((impl_u16.f ((strOfNums l0).extract 10 (strOfNums l0).size)).bind fun t104 => (if t104 = 65535 then (some (([] : List Int), 12)) else ((impl_p48.f a2).bind fun t105 => (if 13 + t105.size ≤ 9223372036854775807 then (if ((⟨#[11, 104, 109, 97, 99, 45, 115, 104, 97, 50, 53, 54, 0]⟩ : ByteArray) ++ t105).size + 2 ≤ 9223372036854775807 then (if (((⟨#[11, 104, 109, 97, 99, 45, 115, 104, 97, 50, 53, 54, 0]⟩ : ByteArray) ++ t105) ++ (⟨#[1, 44]⟩ : ByteArray)).size + 2 ≤ 9223372036854775807 then ((impl_p48.f a2).bind fun t106 => ((impl_sumOf.f a1_0 a1_1 (strOfNums l0) a3 t106 (⟨#[1, 44]⟩ : ByteArray)).bind fun t107 => (if ((((⟨#[11, 104, 109, 97, 99, 45, 115, 104, 97, 50, 53, 54, 0]⟩ : ByteArray) ++ t105) ++ (⟨#[1, 44]⟩ : ByteArray)) ++ (⟨#[0, 32]⟩ : ByteArray)).size + t107.size ≤ 9223372036854775807 then (if 0 ≤ 2 then (if 2 ≤ ((strOfNums l0).size : Int) then (if (((((⟨#[11, 104, 109, 97, 99, 45, 115, 104, 97, 50, 53, 54, 0]⟩ : ByteArray) ++ t105) ++ (⟨#[1, 44]⟩ : ByteArray)) ++ (⟨#[0, 32]⟩ : ByteArray)) ++ t107).size + ((strOfNums l0).extract 0 2).size ≤ 9223372036854775807 then (if ((((((⟨#[11, 104, 109, 97, 99, 45, 115, 104, 97, 50, 53, 54, 0]⟩ : ByteArray) ++ t105) ++ (⟨#[1, 44]⟩ : ByteArray)) ++ (⟨#[0, 32]⟩ : ByteArray)) ++ t107) ++ ((strOfNums l0).extract 0 2)).size + 4 ≤ 9223372036854775807 then (if 0 ≤ 10 then ((impl_p16.f (wrap64 (t104 + 1))).bind fun t108 => (if ((strOfNums l0).extract 0 10).size + t108.size ≤ 9223372036854775807 then (if 12 ≤ ((strOfNums l0).size : Int) then (if (((strOfNums l0).extract 0 10) ++ t108).size + ((strOfNums l0).extract 12 (strOfNums l0).size).size ≤ 9223372036854775807 then (if ((((strOfNums l0).extract 0 10) ++ t108) ++ ((strOfNums l0).extract 12 (strOfNums l0).size)).size + a1_0.size ≤ 9223372036854775807 then ((impl_p16.f 250).bind fun t109 => (if (((((strOfNums l0).extract 0 10) ++ t108) ++ ((strOfNums l0).extract 12 (strOfNums l0).size)) ++ a1_0).size + t109.size ≤ 9223372036854775807 then ((impl_p16.f 255).bind fun t110 => (if ((((((strOfNums l0).extract 0 10) ++ t108) ++ ((strOfNums l0).extract 12 (strOfNums l0).size)) ++ a1_0) ++ t109).size + t110.size ≤ 9223372036854775807 then ((impl_p32.f 0).bind fun t111 => (if (((((((strOfNums l0).extract 0 10) ++ t108) ++ ((strOfNums l0).extract 12 (strOfNums l0).size)) ++ a1_0) ++ t109) ++ t110).size + t111.size ≤ 9223372036854775807 then ((impl_p16.f ((((((((⟨#[11, 104, 109, 97, 99, 45, 115, 104, 97, 50, 53, 54, 0]⟩ : ByteArray) ++ t105) ++ (⟨#[1, 44]⟩ : ByteArray)) ++ (⟨#[0, 32]⟩ : ByteArray)) ++ t107) ++ ((strOfNums l0).extract 0 2)) ++ (⟨#[0, 0, 0, 0]⟩ : ByteArray)).size : Int)).bind fun t112 => (if ((((((((strOfNums l0).extract 0 10) ++ t108) ++ ((strOfNums l0).extract 12 (strOfNums l0).size)) ++ a1_0) ++ t109) ++ t110) ++ t111).size + t112.size ≤ 9223372036854775807 then (if (((((((((strOfNums l0).extract 0 10) ++ t108) ++ ((strOfNums l0).extract 12 (strOfNums l0).size)) ++ a1_0) ++ t109) ++ t110) ++ t111) ++ t112).size + (((((((⟨#[11, 104, 109, 97, 99, 45, 115, 104, 97, 50, 53, 54, 0]⟩ : ByteArray) ++ t105) ++ (⟨#[1, 44]⟩ : ByteArray)) ++ (⟨#[0, 32]⟩ : ByteArray)) ++ t107) ++ ((strOfNums l0).extract 0 2)) ++ (⟨#[0, 0, 0, 0]⟩ : ByteArray)).size ≤ 9223372036854775807 then (if (((((((((((strOfNums l0).extract 0 10) ++ t108) ++ ((strOfNums l0).extract 12 (strOfNums l0).size)) ++ a1_0) ++ t109) ++ t110) ++ t111) ++ t112) ++ (((((((⟨#[11, 104, 109, 97, 99, 45, 115, 104, 97, 50, 53, 54, 0]⟩ : ByteArray) ++ t105) ++ (⟨#[1, 44]⟩ : ByteArray)) ++ (⟨#[0, 32]⟩ : ByteArray)) ++ t107) ++ ((strOfNums l0).extract 0 2)) ++ (⟨#[0, 0, 0, 0]⟩ : ByteArray))).size : Int) > 65535 then (some (([] : List Int), 11)) else ((xbytes.f ((((((((((strOfNums l0).extract 0 10) ++ t108) ++ ((strOfNums l0).extract 12 (strOfNums l0).size)) ++ a1_0) ++ t109) ++ t110) ++ t111) ++ t112) ++ (((((((⟨#[11, 104, 109, 97, 99, 45, 115, 104, 97, 50, 53, 54, 0]⟩ : ByteArray) ++ t105) ++ (⟨#[1, 44]⟩ : ByteArray)) ++ (⟨#[0, 32]⟩ : ByteArray)) ++ t107) ++ ((strOfNums l0).extract 0 2)) ++ (⟨#[0, 0, 0, 0]⟩ : ByteArray)))).bind fun t113 => (some (t113, 0)))) else (none)) else (none))) else (none))) else (none))) else (none))) else (none)) else (none)) else (none)) else (none))) else (none)) else (none)) else (none)) else (none)) else (none)) else (none)))) else (none)) else (none)) else (none))))) else (none)) = some (r1, r2) := by rw [if_neg (show ¬ (false = true) by decide)] at H; exact H
        clear H
        have H := H1
        clear H1
        by_cases c19 : 10 ≤ ((strOfNums l0).size : Int)
        · rw [if_pos c19] at H
          have c19b0 := eq_true c19
          have c19b1 : decide (10 ≤ ((strOfNums l0).size : Int)) = true := decide_eq_true c19
          clear c19
          replace H := Option.bind_eq_some_iff.mp H
          obtain ⟨t104, A200, H⟩ := H
          replace H : (if t104 = 65535 then (some (([] : List Int), 12)) else ((impl_p48.f a2).bind fun t105 => (if 13 + t105.size ≤ 9223372036854775807 then (if ((⟨#[11, 104, 109, 97, 99, 45, 115, 104, 97, 50, 53, 54, 0]⟩ : ByteArray) ++ t105).size + 2 ≤ 9223372036854775807 then (if (((⟨#[11, 104, 109, 97, 99, 45, 115, 104, 97, 50, 53, 54, 0]⟩ : ByteArray) ++ t105) ++ (⟨#[1, 44]⟩ : ByteArray)).size + 2 ≤ 9223372036854775807 then ((impl_p48.f a2).bind fun t106 => ((impl_sumOf.f a1_0 a1_1 (strOfNums l0) a3 t106 (⟨#[1, 44]⟩ : ByteArray)).bind fun t107 => (if ((((⟨#[11, 104, 109, 97, 99, 45, 115, 104, 97, 50, 53, 54, 0]⟩ : ByteArray) ++ t105) ++ (⟨#[1, 44]⟩ : ByteArray)) ++ (⟨#[0, 32]⟩ : ByteArray)).size + t107.size ≤ 9223372036854775807 then (if 0 ≤ 2 then (if 2 ≤ ((strOfNums l0).size : Int) then (if (((((⟨#[11, 104, 109, 97, 99, 45, 115, 104, 97, 50, 53, 54, 0]⟩ : ByteArray) ++ t105) ++ (⟨#[1, 44]⟩ : ByteArray)) ++ (⟨#[0, 32]⟩ : ByteArray)) ++ t107).size + ((strOfNums l0).extract 0 2).size ≤ 9223372036854775807 then (if ((((((⟨#[11, 104, 109, 97, 99, 45, 115, 104, 97, 50, 53, 54, 0]⟩ : ByteArray) ++ t105) ++ (⟨#[1, 44]⟩ : ByteArray)) ++ (⟨#[0, 32]⟩ : ByteArray)) ++ t107) ++ ((strOfNums l0).extract 0 2)).size + 4 ≤ 9223372036854775807 then (if 0 ≤ 10 then ((impl_p16.f (wrap64 (t104 + 1))).bind fun t108 => (if ((strOfNums l0).extract 0 10).size + t108.size ≤ 9223372036854775807 then (if 12 ≤ ((strOfNums l0).size : Int) then (if (((strOfNums l0).extract 0 10) ++ t108).size + ((strOfNums l0).extract 12 (strOfNums l0).size).size ≤ 9223372036854775807 then (if ((((strOfNums l0).extract 0 10) ++ t108) ++ ((strOfNums l0).extract 12 (strOfNums l0).size)).size + a1_0.size ≤ 9223372036854775807 then ((impl_p16.f 250).bind fun t109 => (if (((((strOfNums l0).extract 0 10) ++ t108) ++ ((strOfNums l0).extract 12 (strOfNums l0).size)) ++ a1_0).size + t109.size ≤ 9223372036854775807 then ((impl_p16.f 255).bind fun t110 => (if ((((((strOfNums l0).extract 0 10) ++ t108) ++ ((strOfNums l0).extract 12 (strOfNums l0).size)) ++ a1_0) ++ t109).size + t110.size ≤ 9223372036854775807 then ((impl_p32.f 0).bind fun t111 => (if (((((((strOfNums l0).extract 0 10) ++ t108) ++ ((strOfNums l0).extract 12 (strOfNums l0).size)) ++ a1_0) ++ t109) ++ t110).size + t111.size ≤ 9223372036854775807 then ((impl_p16.f ((((((((⟨#[11, 104, 109, 97, 99, 45, 115, 104, 97, 50, 53, 54, 0]⟩ : ByteArray) ++ t105) ++ (⟨#[1, 44]⟩ : ByteArray)) ++ (⟨#[0, 32]⟩ : ByteArray)) ++ t107) ++ ((strOfNums l0).extract 0 2)) ++ (⟨#[0, 0, 0, 0]⟩ : ByteArray)).size : Int)).bind fun t112 => (if ((((((((strOfNums l0).extract 0 10) ++ t108) ++ ((strOfNums l0).extract 12 (strOfNums l0).size)) ++ a1_0) ++ t109) ++ t110) ++ t111).size + t112.size ≤ 9223372036854775807 then (if (((((((((strOfNums l0).extract 0 10) ++ t108) ++ ((strOfNums l0).extract 12 (strOfNums l0).size)) ++ a1_0) ++ t109) ++ t110) ++ t111) ++ t112).size + (((((((⟨#[11, 104, 109, 97, 99, 45, 115, 104, 97, 50, 53, 54, 0]⟩ : ByteArray) ++ t105) ++ (⟨#[1, 44]⟩ : ByteArray)) ++ (⟨#[0, 32]⟩ : ByteArray)) ++ t107) ++ ((strOfNums l0).extract 0 2)) ++ (⟨#[0, 0, 0, 0]⟩ : ByteArray)).size ≤ 9223372036854775807 then (if (((((((((((strOfNums l0).extract 0 10) ++ t108) ++ ((strOfNums l0).extract 12 (strOfNums l0).size)) ++ a1_0) ++ t109) ++ t110) ++ t111) ++ t112) ++ (((((((⟨#[11, 104, 109, 97, 99, 45, 115, 104, 97, 50, 53, 54, 0]⟩ : ByteArray) ++ t105) ++ (⟨#[1, 44]⟩ : ByteArray)) ++ (⟨#[0, 32]⟩ : ByteArray)) ++ t107) ++ ((strOfNums l0).extract 0 2)) ++ (⟨#[0, 0, 0, 0]⟩ : ByteArray))).size : Int) > 65535 then (some (([] : List Int), 11)) else ((xbytes.f ((((((((((strOfNums l0).extract 0 10) ++ t108) ++ ((strOfNums l0).extract 12 (strOfNums l0).size)) ++ a1_0) ++ t109) ++ t110) ++ t111) ++ t112) ++ (((((((⟨#[11, 104, 109, 97, 99, 45, 115, 104, 97, 50, 53, 54, 0]⟩ : ByteArray) ++ t105) ++ (⟨#[1, 44]⟩ : ByteArray)) ++ (⟨#[0, 32]⟩ : ByteArray)) ++ t107) ++ ((strOfNums l0).extract 0 2)) ++ (⟨#[0, 0, 0, 0]⟩ : ByteArray)))).bind fun t113 => (some (t113, 0)))) else (none)) else (none))) else (none))) else (none))) else (none))) else (none)) else (none)) else (none)) else (none))) else (none)) else (none)) else (none)) else (none)) else (none)) else (none)))) else (none)) else (none)) else (none)))) = some (r1, r2) := H
          have A20 := Aside0.mk A200
          clear A200
          by_cases c21 : t104 = 65535
          · rw [if_pos c21] at H
            have c21b0 : (t104 == 65535) = true := beq_iff_eq.mpr c21
            have c21b1 : (t104 != 65535) = false := bne_eq_false_iff_eq.mpr c21
            clear c21
            simp only [Option.some.injEq, Prod.mk.injEq] at H
            obtain ⟨rfl, rfl⟩ := H
            have hcv22 := Kd.C_string (P := Tryd.prog) (A := A0) (c := c0) Tryd.underlying22 Tryd.underlying5 Tryd.underlying9 (Kd.C_below HR0.out HB.out)
            go_wp2_with (first | ((with_reducible refine gate_callee (f := 36) rfl ?_); refine goesL_ (some 36) rfl rfl Tryd.func36 (by kernel_rfl) rfl #[.string ((strOfNums l0).extract 10 (strOfNums l0).size)] rfl (by (try simp only [List.map_toArray, List.map_cons, List.map_nil]); first | done | rfl | (simp only [List.length_drop, List.length_take]; rfl)) ?_; (with_reducible refine (impl_u16.calls ((strOfNums l0).extract 10 (strOfNums l0).size) t104 _ A20.out).mono ?_); rintro e w' ⟨rfl, ⟨nd, rfl⟩⟩; refine ⟨_, rfl, ?_⟩))
            go_ret2
            exact ⟨_, by first | rfl | (simp [errW_none, errW_some] <;> rfl) | (simp [*, errW_none, errW_some] <;> rfl), by first | exact KB.R_nil _ _ _ _ _ | exact Kd.N_nil _ _ _ _ _ | exact Kd.V_nil _ _ _ _ _ | exact Kd.Q_nil _ _ _ _ _ | exact Kd.S_nil _ _ _ _ _, by repeat (first | (with_reducible first | exact HB.out | apply below_alloc | apply pw_below_drewN | apply below_drew1 | refine below_set ?_ GE101.out) | exact HB.out)⟩
          · rw [if_neg c21] at H
            have c21b0 : (t104 == 65535) = false := beq_eq_false_iff_ne.mpr c21
            have c21b1 : (t104 != 65535) = true := bne_iff_ne.mpr c21
            replace H := Option.bind_eq_some_iff.mp H
            obtain ⟨t105, A230, H⟩ := H
            replace H : (if 13 + t105.size ≤ 9223372036854775807 then (if ((⟨#[11, 104, 109, 97, 99, 45, 115, 104, 97, 50, 53, 54, 0]⟩ : ByteArray) ++ t105).size + 2 ≤ 9223372036854775807 then (if (((⟨#[11, 104, 109, 97, 99, 45, 115, 104, 97, 50, 53, 54, 0]⟩ : ByteArray) ++ t105) ++ (⟨#[1, 44]⟩ : ByteArray)).size + 2 ≤ 9223372036854775807 then ((impl_p48.f a2).bind fun t106 => ((impl_sumOf.f a1_0 a1_1 (strOfNums l0) a3 t106 (⟨#[1, 44]⟩ : ByteArray)).bind fun t107 => (if ((((⟨#[11, 104, 109, 97, 99, 45, 115, 104, 97, 50, 53, 54, 0]⟩ : ByteArray) ++ t105) ++ (⟨#[1, 44]⟩ : ByteArray)) ++ (⟨#[0, 32]⟩ : ByteArray)).size + t107.size ≤ 9223372036854775807 then (if 0 ≤ 2 then (if 2 ≤ ((strOfNums l0).size : Int) then (if (((((⟨#[11, 104, 109, 97, 99, 45, 115, 104, 97, 50, 53, 54, 0]⟩ : ByteArray) ++ t105) ++ (⟨#[1, 44]⟩ : ByteArray)) ++ (⟨#[0, 32]⟩ : ByteArray)) ++ t107).size + ((strOfNums l0).extract 0 2).size ≤ 9223372036854775807 then (if ((((((⟨#[11, 104, 109, 97, 99, 45, 115, 104, 97, 50, 53, 54, 0]⟩ : ByteArray) ++ t105) ++ (⟨#[1, 44]⟩ : ByteArray)) ++ (⟨#[0, 32]⟩ : ByteArray)) ++ t107) ++ ((strOfNums l0).extract 0 2)).size + 4 ≤ 9223372036854775807 then (if 0 ≤ 10 then ((impl_p16.f (wrap64 (t104 + 1))).bind fun t108 => (if ((strOfNums l0).extract 0 10).size + t108.size ≤ 9223372036854775807 then (if 12 ≤ ((strOfNums l0).size : Int) then (if (((strOfNums l0).extract 0 10) ++ t108).size + ((strOfNums l0).extract 12 (strOfNums l0).size).size ≤ 9223372036854775807 then (if ((((strOfNums l0).extract 0 10) ++ t108) ++ ((strOfNums l0).extract 12 (strOfNums l0).size)).size + a1_0.size ≤ 9223372036854775807 then ((impl_p16.f 250).bind fun t109 => (if (((((strOfNums l0).extract 0 10) ++ t108) ++ ((strOfNums l0).extract 12 (strOfNums l0).size)) ++ a1_0).size + t109.size ≤ 9223372036854775807 then ((impl_p16.f 255).bind fun t110 => (if ((((((strOfNums l0).extract 0 10) ++ t108) ++ ((strOfNums l0).extract 12 (strOfNums l0).size)) ++ a1_0) ++ t109).size + t110.size ≤ 9223372036854775807 then ((impl_p32.f 0).bind fun t111 => (if (((((((strOfNums l0).extract 0 10) ++ t108) ++ ((strOfNums l0).extract 12 (strOfNums l0).size)) ++ a1_0) ++ t109) ++ t110).size + t111.size ≤ 9223372036854775807 then ((impl_p16.f ((((((((⟨#[11, 104, 109, 97, 99, 45, 115, 104, 97, 50, 53, 54, 0]⟩ : ByteArray) ++ t105) ++ (⟨#[1, 44]⟩ : ByteArray)) ++ (⟨#[0, 32]⟩ : ByteArray)) ++ t107) ++ ((strOfNums l0).extract 0 2)) ++ (⟨#[0, 0, 0, 0]⟩ : ByteArray)).size : Int)).bind fun t112 => (if ((((((((strOfNums l0).extract 0 10) ++ t108) ++ ((strOfNums l0).extract 12 (strOfNums l0).size)) ++ a1_0) ++ t109) ++ t110) ++ t111).size + t112.size ≤ 9223372036854775807 then (if (((((((((strOfNums l0).extract 0 10) ++ t108) ++ ((strOfNums l0).extract 12 (strOfNums l0).size)) ++ a1_0) ++ t109) ++ t110) ++ t111) ++ t112).size + (((((((⟨#[11, 104, 109, 97, 99, 45, 115, 104, 97, 50, 53, 54, 0]⟩ : ByteArray) ++ t105) ++ (⟨#[1, 44]⟩ : ByteArray)) ++ (⟨#[0, 32]⟩ : ByteArray)) ++ t107) ++ ((strOfNums l0).extract 0 2)) ++ (⟨#[0, 0, 0, 0]⟩ : ByteArray)).size ≤ 9223372036854775807 then (if (((((((((((strOfNums l0).extract 0 10) ++ t108) ++ ((strOfNums l0).extract 12 (strOfNums l0).size)) ++ a1_0) ++ t109) ++ t110) ++ t111) ++ t112) ++ (((((((⟨#[11, 104, 109, 97, 99, 45, 115, 104, 97, 50, 53, 54, 0]⟩ : ByteArray) ++ t105) ++ (⟨#[1, 44]⟩ : ByteArray)) ++ (⟨#[0, 32]⟩ : ByteArray)) ++ t107) ++ ((strOfNums l0).extract 0 2)) ++ (⟨#[0, 0, 0, 0]⟩ : ByteArray))).size : Int) > 65535 then (some (([] : List Int), 11)) else ((xbytes.f ((((((((((strOfNums l0).extract 0 10) ++ t108) ++ ((strOfNums l0).extract 12 (strOfNums l0).size)) ++ a1_0) ++ t109) ++ t110) ++ t111) ++ t112) ++ (((((((⟨#[11, 104, 109, 97, 99, 45, 115, 104, 97, 50, 53, 54, 0]⟩ : ByteArray) ++ t105) ++ (⟨#[1, 44]⟩ : ByteArray)) ++ (⟨#[0, 32]⟩ : ByteArray)) ++ t107) ++ ((strOfNums l0).extract 0 2)) ++ (⟨#[0, 0, 0, 0]⟩ : ByteArray)))).bind fun t113 => (some (t113, 0)))) else (none)) else (none))) else (none))) else (none))) else (none))) else (none)) else (none)) else (none)) else (none))) else (none)) else (none)) else (none)) else (none)) else (none)) else (none)))) else (none)) else (none)) else (none)) = some (r1, r2) := H
            have A23 := Aside0.mk A230
            clear A230
            by_cases c24 : 13 + t105.size ≤ 9223372036854775807
            · rw [if_pos c24] at H
              have c24b0 := eq_true c24
              have c24b1 : decide (13 + t105.size ≤ 9223372036854775807) = true := decide_eq_true c24
              try have c24b2 : (9223372036854775807 < 13 + t105.size) = False := eq_false (Nat.not_lt.2 c24)
              try have c24b3 : (9223372036854775807 < 13 + t105.size) = False := eq_false (Nat.not_lt.2 (by have h := c24; simp only [ByteArray.size_append, ByteArray.size_extract, Nat.min_self, Nat.sub_zero] at h; first | with_reducible exact h | omega))
              by_cases c25 : ((⟨#[11, 104, 109, 97, 99, 45, 115, 104, 97, 50, 53, 54, 0]⟩ : ByteArray) ++ t105).size + 2 ≤ 9223372036854775807
              · rw [if_pos c25] at H
                have c25b0 := eq_true c25
                have c25b1 : decide (((⟨#[11, 104, 109, 97, 99, 45, 115, 104, 97, 50, 53, 54, 0]⟩ : ByteArray) ++ t105).size + 2 ≤ 9223372036854775807) = true := decide_eq_true c25
                try have c25b2 : (9223372036854775807 < ((⟨#[11, 104, 109, 97, 99, 45, 115, 104, 97, 50, 53, 54, 0]⟩ : ByteArray) ++ t105).size + 2) = False := eq_false (Nat.not_lt.2 c25)
                try have c25b3 : (9223372036854775807 < (13 + t105.size) + 2) = False := eq_false (Nat.not_lt.2 (by have h := c25; simp only [ByteArray.size_append, ByteArray.size_extract, Nat.min_self, Nat.sub_zero, (show (⟨#[11, 104, 109, 97, 99, 45, 115, 104, 97, 50, 53, 54, 0]⟩ : ByteArray).size = 13 from rfl)] at h; first | with_reducible exact h | omega))
                by_cases c26 : (((⟨#[11, 104, 109, 97, 99, 45, 115, 104, 97, 50, 53, 54, 0]⟩ : ByteArray) ++ t105) ++ (⟨#[1, 44]⟩ : ByteArray)).size + 2 ≤ 9223372036854775807
                · rw [if_pos c26] at H
                  have c26b0 := eq_true c26
                  have c26b1 : decide ((((⟨#[11, 104, 109, 97, 99, 45, 115, 104, 97, 50, 53, 54, 0]⟩ : ByteArray) ++ t105) ++ (⟨#[1, 44]⟩ : ByteArray)).size + 2 ≤ 9223372036854775807) = true := decide_eq_true c26
                  try have c26b2 : (9223372036854775807 < (((⟨#[11, 104, 109, 97, 99, 45, 115, 104, 97, 50, 53, 54, 0]⟩ : ByteArray) ++ t105) ++ (⟨#[1, 44]⟩ : ByteArray)).size + 2) = False := eq_false (Nat.not_lt.2 c26)
                  try have c26b3 : (9223372036854775807 < ((13 + t105.size) + 2) + 2) = False := eq_false (Nat.not_lt.2 (by have h := c26; simp only [ByteArray.size_append, ByteArray.size_extract, Nat.min_self, Nat.sub_zero, (show (⟨#[1, 44]⟩ : ByteArray).size = 2 from rfl), (show (⟨#[11, 104, 109, 97, 99, 45, 115, 104, 97, 50, 53, 54, 0]⟩ : ByteArray).size = 13 from rfl)] at h; first | with_reducible exact h | omega))
                  replace H := Option.bind_eq_some_iff.mp H
                  obtain ⟨t106, A270, H⟩ := H
                  replace H : ((impl_sumOf.f a1_0 a1_1 (strOfNums l0) a3 t106 (⟨#[1, 44]⟩ : ByteArray)).bind fun t107 => (if ((((⟨#[11, 104, 109, 97, 99, 45, 115, 104, 97, 50, 53, 54, 0]⟩ : ByteArray) ++ t105) ++ (⟨#[1, 44]⟩ : ByteArray)) ++ (⟨#[0, 32]⟩ : ByteArray)).size + t107.size ≤ 9223372036854775807 then (if 0 ≤ 2 then (if 2 ≤ ((strOfNums l0).size : Int) then (if (((((⟨#[11, 104, 109, 97, 99, 45, 115, 104, 97, 50, 53, 54, 0]⟩ : ByteArray) ++ t105) ++ (⟨#[1, 44]⟩ : ByteArray)) ++ (⟨#[0, 32]⟩ : ByteArray)) ++ t107).size + ((strOfNums l0).extract 0 2).size ≤ 9223372036854775807 then (if ((((((⟨#[11, 104, 109, 97, 99, 45, 115, 104, 97, 50, 53, 54, 0]⟩ : ByteArray) ++ t105) ++ (⟨#[1, 44]⟩ : ByteArray)) ++ (⟨#[0, 32]⟩ : ByteArray)) ++ t107) ++ ((strOfNums l0).extract 0 2)).size + 4 ≤ 9223372036854775807 then (if 0 ≤ 10 then ((impl_p16.f (wrap64 (t104 + 1))).bind fun t108 => (if ((strOfNums l0).extract 0 10).size + t108.size ≤ 9223372036854775807 then (if 12 ≤ ((strOfNums l0).size : Int) then (if (((strOfNums l0).extract 0 10) ++ t108).size + ((strOfNums l0).extract 12 (strOfNums l0).size).size ≤ 9223372036854775807 then (if ((((strOfNums l0).extract 0 10) ++ t108) ++ ((strOfNums l0).extract 12 (strOfNums l0).size)).size + a1_0.size ≤ 9223372036854775807 then ((impl_p16.f 250).bind fun t109 => (if (((((strOfNums l0).extract 0 10) ++ t108) ++ ((strOfNums l0).extract 12 (strOfNums l0).size)) ++ a1_0).size + t109.size ≤ 9223372036854775807 then ((impl_p16.f 255).bind fun t110 => (if ((((((strOfNums l0).extract 0 10) ++ t108) ++ ((strOfNums l0).extract 12 (strOfNums l0).size)) ++ a1_0) ++ t109).size + t110.size ≤ 9223372036854775807 then ((impl_p32.f 0).bind fun t111 => (if (((((((strOfNums l0).extract 0 10) ++ t108) ++ ((strOfNums l0).extract 12 (strOfNums l0).size)) ++ a1_0) ++ t109) ++ t110).size + t111.size ≤ 9223372036854775807 then ((impl_p16.f ((((((((⟨#[11, 104, 109, 97, 99, 45, 115, 104, 97, 50, 53, 54, 0]⟩ : ByteArray) ++ t105) ++ (⟨#[1, 44]⟩ : ByteArray)) ++ (⟨#[0, 32]⟩ : ByteArray)) ++ t107) ++ ((strOfNums l0).extract 0 2)) ++ (⟨#[0, 0, 0, 0]⟩ : ByteArray)).size : Int)).bind fun t112 => (if ((((((((strOfNums l0).extract 0 10) ++ t108) ++ ((strOfNums l0).extract 12 (strOfNums l0).size)) ++ a1_0) ++ t109) ++ t110) ++ t111).size + t112.size ≤ 9223372036854775807 then (if (((((((((strOfNums l0).extract 0 10) ++ t108) ++ ((strOfNums l0).extract 12 (strOfNums l0).size)) ++ a1_0) ++ t109) ++ t110) ++ t111) ++ t112).size + (((((((⟨#[11, 104, 109, 97, 99, 45, 115, 104, 97, 50, 53, 54, 0]⟩ : ByteArray) ++ t105) ++ (⟨#[1, 44]⟩ : ByteArray)) ++ (⟨#[0, 32]⟩ : ByteArray)) ++ t107) ++ ((strOfNums l0).extract 0 2)) ++ (⟨#[0, 0, 0, 0]⟩ : ByteArray)).size ≤ 9223372036854775807 then (if (((((((((((strOfNums l0).extract 0 10) ++ t108) ++ ((strOfNums l0).extract 12 (strOfNums l0).size)) ++ a1_0) ++ t109) ++ t110) ++ t111) ++ t112) ++ (((((((⟨#[11, 104, 109, 97, 99, 45, 115, 104, 97, 50, 53, 54, 0]⟩ : ByteArray) ++ t105) ++ (⟨#[1, 44]⟩ : ByteArray)) ++ (⟨#[0, 32]⟩ : ByteArray)) ++ t107) ++ ((strOfNums l0).extract 0 2)) ++ (⟨#[0, 0, 0, 0]⟩ : ByteArray))).size : Int) > 65535 then (some (([] : List Int), 11)) else ((xbytes.f ((((((((((strOfNums l0).extract 0 10) ++ t108) ++ ((strOfNums l0).extract 12 (strOfNums l0).size)) ++ a1_0) ++ t109) ++ t110) ++ t111) ++ t112) ++ (((((((⟨#[11, 104, 109, 97, 99, 45, 115, 104, 97, 50, 53, 54, 0]⟩ : ByteArray) ++ t105) ++ (⟨#[1, 44]⟩ : ByteArray)) ++ (⟨#[0, 32]⟩ : ByteArray)) ++ t107) ++ ((strOfNums l0).extract 0 2)) ++ (⟨#[0, 0, 0, 0]⟩ : ByteArray)))).bind fun t113 => (some (t113, 0)))) else (none)) else (none))) else (none))) else (none))) else (none))) else (none)) else (none)) else (none)) else (none))) else (none)) else (none)) else (none)) else (none)) else (none)) else (none))) = some (r1, r2) := H
                  have A27 := Aside0.mk A270
                  clear A270
                  replace H := Option.bind_eq_some_iff.mp H
                  obtain ⟨t107, A280, H⟩ := H
                  replace H : (if ((((⟨#[11, 104, 109, 97, 99, 45, 115, 104, 97, 50, 53, 54, 0]⟩ : ByteArray) ++ t105) ++ (⟨#[1, 44]⟩ : ByteArray)) ++ (⟨#[0, 32]⟩ : ByteArray)).size + t107.size ≤ 9223372036854775807 then (if 0 ≤ 2 then (if 2 ≤ ((strOfNums l0).size : Int) then (if (((((⟨#[11, 104, 109, 97, 99, 45, 115, 104, 97, 50, 53, 54, 0]⟩ : ByteArray) ++ t105) ++ (⟨#[1, 44]⟩ : ByteArray)) ++ (⟨#[0, 32]⟩ : ByteArray)) ++ t107).size + ((strOfNums l0).extract 0 2).size ≤ 9223372036854775807 then (if ((((((⟨#[11, 104, 109, 97, 99, 45, 115, 104, 97, 50, 53, 54, 0]⟩ : ByteArray) ++ t105) ++ (⟨#[1, 44]⟩ : ByteArray)) ++ (⟨#[0, 32]⟩ : ByteArray)) ++ t107) ++ ((strOfNums l0).extract 0 2)).size + 4 ≤ 9223372036854775807 then (if 0 ≤ 10 then ((impl_p16.f (wrap64 (t104 + 1))).bind fun t108 => (if ((strOfNums l0).extract 0 10).size + t108.size ≤ 9223372036854775807 then (if 12 ≤ ((strOfNums l0).size : Int) then (if (((strOfNums l0).extract 0 10) ++ t108).size + ((strOfNums l0).extract 12 (strOfNums l0).size).size ≤ 9223372036854775807 then (if ((((strOfNums l0).extract 0 10) ++ t108) ++ ((strOfNums l0).extract 12 (strOfNums l0).size)).size + a1_0.size ≤ 9223372036854775807 then ((impl_p16.f 250).bind fun t109 => (if (((((strOfNums l0).extract 0 10) ++ t108) ++ ((strOfNums l0).extract 12 (strOfNums l0).size)) ++ a1_0).size + t109.size ≤ 9223372036854775807 then ((impl_p16.f 255).bind fun t110 => (if ((((((strOfNums l0).extract 0 10) ++ t108) ++ ((strOfNums l0).extract 12 (strOfNums l0).size)) ++ a1_0) ++ t109).size + t110.size ≤ 9223372036854775807 then ((impl_p32.f 0).bind fun t111 => (if (((((((strOfNums l0).extract 0 10) ++ t108) ++ ((strOfNums l0).extract 12 (strOfNums l0).size)) ++ a1_0) ++ t109) ++ t110).size + t111.size ≤ 9223372036854775807 then ((impl_p16.f ((((((((⟨#[11, 104, 109, 97, 99, 45, 115, 104, 97, 50, 53, 54, 0]⟩ : ByteArray) ++ t105) ++ (⟨#[1, 44]⟩ : ByteArray)) ++ (⟨#[0, 32]⟩ : ByteArray)) ++ t107) ++ ((strOfNums l0).extract 0 2)) ++ (⟨#[0, 0, 0, 0]⟩ : ByteArray)).size : Int)).bind fun t112 => (if ((((((((strOfNums l0).extract 0 10) ++ t108) ++ ((strOfNums l0).extract 12 (strOfNums l0).size)) ++ a1_0) ++ t109) ++ t110) ++ t111).size + t112.size ≤ 9223372036854775807 then (if (((((((((strOfNums l0).extract 0 10) ++ t108) ++ ((strOfNums l0).extract 12 (strOfNums l0).size)) ++ a1_0) ++ t109) ++ t110) ++ t111) ++ t112).size + (((((((⟨#[11, 104, 109, 97, 99, 45, 115, 104, 97, 50, 53, 54, 0]⟩ : ByteArray) ++ t105) ++ (⟨#[1, 44]⟩ : ByteArray)) ++ (⟨#[0, 32]⟩ : ByteArray)) ++ t107) ++ ((strOfNums l0).extract 0 2)) ++ (⟨#[0, 0, 0, 0]⟩ : ByteArray)).size ≤ 9223372036854775807 then (if (((((((((((strOfNums l0).extract 0 10) ++ t108) ++ ((strOfNums l0).extract 12 (strOfNums l0).size)) ++ a1_0) ++ t109) ++ t110) ++ t111) ++ t112) ++ (((((((⟨#[11, 104, 109, 97, 99, 45, 115, 104, 97, 50, 53, 54, 0]⟩ : ByteArray) ++ t105) ++ (⟨#[1, 44]⟩ : ByteArray)) ++ (⟨#[0, 32]⟩ : ByteArray)) ++ t107) ++ ((strOfNums l0).extract 0 2)) ++ (⟨#[0, 0, 0, 0]⟩ : ByteArray))).size : Int) > 65535 then (some (([] : List Int), 11)) else ((xbytes.f ((((((((((strOfNums l0).extract 0 10) ++ t108) ++ ((strOfNums l0).extract 12 (strOfNums l0).size)) ++ a1_0) ++ t109) ++ t110) ++ t111) ++ t112) ++ (((((((⟨#[11, 104, 109, 97, 99, 45, 115, 104, 97, 50, 53, 54, 0]⟩ : ByteArray) ++ t105) ++ (⟨#[1, 44]⟩ : ByteArray)) ++ (⟨#[0, 32]⟩ : ByteArray)) ++ t107) ++ ((strOfNums l0).extract 0 2)) ++ (⟨#[0, 0, 0, 0]⟩ : ByteArray)))).bind fun t113 => (some (t113, 0)))) else (none)) else (none))) else (none))) else (none))) else (none))) else (none)) else (none)) else (none)) else (none))) else (none)) else (none)) else (none)) else (none)) else (none)) else (none)) = some (r1, r2) := H
                  have A28 := Aside0.mk A280
                  clear A280
                  by_cases c29 : ((((⟨#[11, 104, 109, 97, 99, 45, 115, 104, 97, 50, 53, 54, 0]⟩ : ByteArray) ++ t105) ++ (⟨#[1, 44]⟩ : ByteArray)) ++ (⟨#[0, 32]⟩ : ByteArray)).size + t107.size ≤ 9223372036854775807
                  · rw [if_pos c29] at H
                    have c29b0 := eq_true c29
                    have c29b1 : decide (((((⟨#[11, 104, 109, 97, 99, 45, 115, 104, 97, 50, 53, 54, 0]⟩ : ByteArray) ++ t105) ++ (⟨#[1, 44]⟩ : ByteArray)) ++ (⟨#[0, 32]⟩ : ByteArray)).size + t107.size ≤ 9223372036854775807) = true := decide_eq_true c29
                    try have c29b2 : (9223372036854775807 < ((((⟨#[11, 104, 109, 97, 99, 45, 115, 104, 97, 50, 53, 54, 0]⟩ : ByteArray) ++ t105) ++ (⟨#[1, 44]⟩ : ByteArray)) ++ (⟨#[0, 32]⟩ : ByteArray)).size + t107.size) = False := eq_false (Nat.not_lt.2 c29)
                    try have c29b3 : (9223372036854775807 < (((13 + t105.size) + 2) + 2) + t107.size) = False := eq_false (Nat.not_lt.2 (by have h := c29; simp only [ByteArray.size_append, ByteArray.size_extract, Nat.min_self, Nat.sub_zero, (show (⟨#[0, 32]⟩ : ByteArray).size = 2 from rfl), (show (⟨#[1, 44]⟩ : ByteArray).size = 2 from rfl), (show (⟨#[11, 104, 109, 97, 99, 45, 115, 104, 97, 50, 53, 54, 0]⟩ : ByteArray).size = 13 from rfl)] at h; first | with_reducible exact h | omega))
                    by_cases c30 : 0 ≤ 2
                    · rw [if_pos c30] at H
                      have c30b0 := eq_true c30
                      have c30b1 : decide (0 ≤ 2) = true := decide_eq_true c30
                      clear c30
                      by_cases c31 : 2 ≤ ((strOfNums l0).size : Int)
                      · rw [if_pos c31] at H
                        have c31b0 := eq_true c31
                        have c31b1 : decide (2 ≤ ((strOfNums l0).size : Int)) = true := decide_eq_true c31
                        clear c31
                        by_cases c32 : (((((⟨#[11, 104, 109, 97, 99, 45, 115, 104, 97, 50, 53, 54, 0]⟩ : ByteArray) ++ t105) ++ (⟨#[1, 44]⟩ : ByteArray)) ++ (⟨#[0, 32]⟩ : ByteArray)) ++ t107).size + ((strOfNums l0).extract 0 2).size ≤ 9223372036854775807
                        · rw [if_pos c32] at H
                          have c32b0 := eq_true c32
                          have c32b1 : decide ((((((⟨#[11, 104, 109, 97, 99, 45, 115, 104, 97, 50, 53, 54, 0]⟩ : ByteArray) ++ t105) ++ (⟨#[1, 44]⟩ : ByteArray)) ++ (⟨#[0, 32]⟩ : ByteArray)) ++ t107).size + ((strOfNums l0).extract 0 2).size ≤ 9223372036854775807) = true := decide_eq_true c32
                          try have c32b2 : (9223372036854775807 < (((((⟨#[11, 104, 109, 97, 99, 45, 115, 104, 97, 50, 53, 54, 0]⟩ : ByteArray) ++ t105) ++ (⟨#[1, 44]⟩ : ByteArray)) ++ (⟨#[0, 32]⟩ : ByteArray)) ++ t107).size + ((strOfNums l0).extract 0 2).size) = False := eq_false (Nat.not_lt.2 c32)
                          try have c32b3 : (9223372036854775807 < ((((13 + t105.size) + 2) + 2) + t107.size) + (min 2 (strOfNums l0).size)) = False := eq_false (Nat.not_lt.2 (by have h := c32; simp only [ByteArray.size_append, ByteArray.size_extract, Nat.min_self, Nat.sub_zero, (show (⟨#[0, 32]⟩ : ByteArray).size = 2 from rfl), (show (⟨#[1, 44]⟩ : ByteArray).size = 2 from rfl), (show (⟨#[11, 104, 109, 97, 99, 45, 115, 104, 97, 50, 53, 54, 0]⟩ : ByteArray).size = 13 from rfl)] at h; first | with_reducible exact h | omega))
                          by_cases c33 : ((((((⟨#[11, 104, 109, 97, 99, 45, 115, 104, 97, 50, 53, 54, 0]⟩ : ByteArray) ++ t105) ++ (⟨#[1, 44]⟩ : ByteArray)) ++ (⟨#[0, 32]⟩ : ByteArray)) ++ t107) ++ ((strOfNums l0).extract 0 2)).size + 4 ≤ 9223372036854775807
                          · rw [if_pos c33] at H
                            have c33b0 := eq_true c33
                            have c33b1 : decide (((((((⟨#[11, 104, 109, 97, 99, 45, 115, 104, 97, 50, 53, 54, 0]⟩ : ByteArray) ++ t105) ++ (⟨#[1, 44]⟩ : ByteArray)) ++ (⟨#[0, 32]⟩ : ByteArray)) ++ t107) ++ ((strOfNums l0).extract 0 2)).size + 4 ≤ 9223372036854775807) = true := decide_eq_true c33
                            try have c33b2 : (9223372036854775807 < ((((((⟨#[11, 104, 109, 97, 99, 45, 115, 104, 97, 50, 53, 54, 0]⟩ : ByteArray) ++ t105) ++ (⟨#[1, 44]⟩ : ByteArray)) ++ (⟨#[0, 32]⟩ : ByteArray)) ++ t107) ++ ((strOfNums l0).extract 0 2)).size + 4) = False := eq_false (Nat.not_lt.2 c33)
                            try have c33b3 : (9223372036854775807 < (((((13 + t105.size) + 2) + 2) + t107.size) + (min 2 (strOfNums l0).size)) + 4) = False := eq_false (Nat.not_lt.2 (by have h := c33; simp only [ByteArray.size_append, ByteArray.size_extract, Nat.min_self, Nat.sub_zero, (show (⟨#[0, 32]⟩ : ByteArray).size = 2 from rfl), (show (⟨#[1, 44]⟩ : ByteArray).size = 2 from rfl), (show (⟨#[11, 104, 109, 97, 99, 45, 115, 104, 97, 50, 53, 54, 0]⟩ : ByteArray).size = 13 from rfl)] at h; first | with_reducible exact h | omega))
                            by_cases c34 : 0 ≤ 10
                            · rw [if_pos c34] at H
                              have c34b0 := eq_true c34
                              have c34b1 : decide (0 ≤ 10) = true := decide_eq_true c34
                              clear c34
                              have c35b0 := eq_true (of_decide_eq_true (by first | (with_reducible assumption) | assumption) : 10 ≤ ((strOfNums l0).size : Int))
                              replace H := Option.bind_eq_some_iff.mp H
                              obtain ⟨t108, A360, H⟩ := H
                              replace H : (if ((strOfNums l0).extract 0 10).size + t108.size ≤ 9223372036854775807 then (if 12 ≤ ((strOfNums l0).size : Int) then (if (((strOfNums l0).extract 0 10) ++ t108).size + ((strOfNums l0).extract 12 (strOfNums l0).size).size ≤ 9223372036854775807 then (if ((((strOfNums l0).extract 0 10) ++ t108) ++ ((strOfNums l0).extract 12 (strOfNums l0).size)).size + a1_0.size ≤ 9223372036854775807 then ((impl_p16.f 250).bind fun t109 => (if (((((strOfNums l0).extract 0 10) ++ t108) ++ ((strOfNums l0).extract 12 (strOfNums l0).size)) ++ a1_0).size + t109.size ≤ 9223372036854775807 then ((impl_p16.f 255).bind fun t110 => (if ((((((strOfNums l0).extract 0 10) ++ t108) ++ ((strOfNums l0).extract 12 (strOfNums l0).size)) ++ a1_0) ++ t109).size + t110.size ≤ 9223372036854775807 then ((impl_p32.f 0).bind fun t111 => (if (((((((strOfNums l0).extract 0 10) ++ t108) ++ ((strOfNums l0).extract 12 (strOfNums l0).size)) ++ a1_0) ++ t109) ++ t110).size + t111.size ≤ 9223372036854775807 then ((impl_p16.f ((((((((⟨#[11, 104, 109, 97, 99, 45, 115, 104, 97, 50, 53, 54, 0]⟩ : ByteArray) ++ t105) ++ (⟨#[1, 44]⟩ : ByteArray)) ++ (⟨#[0, 32]⟩ : ByteArray)) ++ t107) ++ ((strOfNums l0).extract 0 2)) ++ (⟨#[0, 0, 0, 0]⟩ : ByteArray)).size : Int)).bind fun t112 => (if ((((((((strOfNums l0).extract 0 10) ++ t108) ++ ((strOfNums l0).extract 12 (strOfNums l0).size)) ++ a1_0) ++ t109) ++ t110) ++ t111).size + t112.size ≤ 9223372036854775807 then (if (((((((((strOfNums l0).extract 0 10) ++ t108) ++ ((strOfNums l0).extract 12 (strOfNums l0).size)) ++ a1_0) ++ t109) ++ t110) ++ t111) ++ t112).size + (((((((⟨#[11, 104, 109, 97, 99, 45, 115, 104, 97, 50, 53, 54, 0]⟩ : ByteArray) ++ t105) ++ (⟨#[1, 44]⟩ : ByteArray)) ++ (⟨#[0, 32]⟩ : ByteArray)) ++ t107) ++ ((strOfNums l0).extract 0 2)) ++ (⟨#[0, 0, 0, 0]⟩ : ByteArray)).size ≤ 9223372036854775807 then (if (((((((((((strOfNums l0).extract 0 10) ++ t108) ++ ((strOfNums l0).extract 12 (strOfNums l0).size)) ++ a1_0) ++ t109) ++ t110) ++ t111) ++ t112) ++ (((((((⟨#[11, 104, 109, 97, 99, 45, 115, 104, 97, 50, 53, 54, 0]⟩ : ByteArray) ++ t105) ++ (⟨#[1, 44]⟩ : ByteArray)) ++ (⟨#[0, 32]⟩ : ByteArray)) ++ t107) ++ ((strOfNums l0).extract 0 2)) ++ (⟨#[0, 0, 0, 0]⟩ : ByteArray))).size : Int) > 65535 then (some (([] : List Int), 11)) else ((xbytes.f ((((((((((strOfNums l0).extract 0 10) ++ t108) ++ ((strOfNums l0).extract 12 (strOfNums l0).size)) ++ a1_0) ++ t109) ++ t110) ++ t111) ++ t112) ++ (((((((⟨#[11, 104, 109, 97, 99, 45, 115, 104, 97, 50, 53, 54, 0]⟩ : ByteArray) ++ t105) ++ (⟨#[1, 44]⟩ : ByteArray)) ++ (⟨#[0, 32]⟩ : ByteArray)) ++ t107) ++ ((strOfNums l0).extract 0 2)) ++ (⟨#[0, 0, 0, 0]⟩ : ByteArray)))).bind fun t113 => (some (t113, 0)))) else (none)) else (none))) else (none))) else (none))) else (none))) else (none)) else (none)) else (none)) else (none)) = some (r1, r2) := H
                              have A36 := Aside0.mk A360
                              clear A360
                              by_cases c37 : ((strOfNums l0).extract 0 10).size + t108.size ≤ 9223372036854775807
                              · rw [if_pos c37] at H
                                have c37b0 := eq_true c37
                                have c37b1 : decide (((strOfNums l0).extract 0 10).size + t108.size ≤ 9223372036854775807) = true := decide_eq_true c37
                                try have c37b2 : (9223372036854775807 < ((strOfNums l0).extract 0 10).size + t108.size) = False := eq_false (Nat.not_lt.2 c37)
                                try have c37b3 : (9223372036854775807 < (min 10 (strOfNums l0).size) + t108.size) = False := eq_false (Nat.not_lt.2 (by have h := c37; simp only [ByteArray.size_append, ByteArray.size_extract, Nat.min_self, Nat.sub_zero] at h; first | with_reducible exact h | omega))
                                by_cases c38 : 12 ≤ ((strOfNums l0).size : Int)
                                · rw [if_pos c38] at H
                                  have c38b0 := eq_true c38
                                  have c38b1 : decide (12 ≤ ((strOfNums l0).size : Int)) = true := decide_eq_true c38
                                  clear c38
                                  by_cases c39 : (((strOfNums l0).extract 0 10) ++ t108).size + ((strOfNums l0).extract 12 (strOfNums l0).size).size ≤ 9223372036854775807
                                  · rw [if_pos c39] at H
                                    have c39b0 := eq_true c39
                                    have c39b1 : decide ((((strOfNums l0).extract 0 10) ++ t108).size + ((strOfNums l0).extract 12 (strOfNums l0).size).size ≤ 9223372036854775807) = true := decide_eq_true c39
                                    try have c39b2 : (9223372036854775807 < (((strOfNums l0).extract 0 10) ++ t108).size + ((strOfNums l0).extract 12 (strOfNums l0).size).size) = False := eq_false (Nat.not_lt.2 c39)
                                    try have c39b3 : (9223372036854775807 < ((min 10 (strOfNums l0).size) + t108.size) + ((strOfNums l0).size - 12)) = False := eq_false (Nat.not_lt.2 (by have h := c39; simp only [ByteArray.size_append, ByteArray.size_extract, Nat.min_self, Nat.sub_zero] at h; first | with_reducible exact h | omega))
                                    by_cases c40 : ((((strOfNums l0).extract 0 10) ++ t108) ++ ((strOfNums l0).extract 12 (strOfNums l0).size)).size + a1_0.size ≤ 9223372036854775807
                                    · rw [if_pos c40] at H
                                      have c40b0 := eq_true c40
                                      have c40b1 : decide (((((strOfNums l0).extract 0 10) ++ t108) ++ ((strOfNums l0).extract 12 (strOfNums l0).size)).size + a1_0.size ≤ 9223372036854775807) = true := decide_eq_true c40
                                      try have c40b2 : (9223372036854775807 < ((((strOfNums l0).extract 0 10) ++ t108) ++ ((strOfNums l0).extract 12 (strOfNums l0).size)).size + a1_0.size) = False := eq_false (Nat.not_lt.2 c40)
                                      try have c40b3 : (9223372036854775807 < (((min 10 (strOfNums l0).size) + t108.size) + ((strOfNums l0).size - 12)) + a1_0.size) = False := eq_false (Nat.not_lt.2 (by have h := c40; simp only [ByteArray.size_append, ByteArray.size_extract, Nat.min_self, Nat.sub_zero] at h; first | with_reducible exact h | omega))
                                      replace H := Option.bind_eq_some_iff.mp H
                                      obtain ⟨t109, A410, H⟩ := H
                                      replace H : (if (((((strOfNums l0).extract 0 10) ++ t108) ++ ((strOfNums l0).extract 12 (strOfNums l0).size)) ++ a1_0).size + t109.size ≤ 9223372036854775807 then ((impl_p16.f 255).bind fun t110 => (if ((((((strOfNums l0).extract 0 10) ++ t108) ++ ((strOfNums l0).extract 12 (strOfNums l0).size)) ++ a1_0) ++ t109).size + t110.size ≤ 9223372036854775807 then ((impl_p32.f 0).bind fun t111 => (if (((((((strOfNums l0).extract 0 10) ++ t108) ++ ((strOfNums l0).extract 12 (strOfNums l0).size)) ++ a1_0) ++ t109) ++ t110).size + t111.size ≤ 9223372036854775807 then ((impl_p16.f ((((((((⟨#[11, 104, 109, 97, 99, 45, 115, 104, 97, 50, 53, 54, 0]⟩ : ByteArray) ++ t105) ++ (⟨#[1, 44]⟩ : ByteArray)) ++ (⟨#[0, 32]⟩ : ByteArray)) ++ t107) ++ ((strOfNums l0).extract 0 2)) ++ (⟨#[0, 0, 0, 0]⟩ : ByteArray)).size : Int)).bind fun t112 => (if ((((((((strOfNums l0).extract 0 10) ++ t108) ++ ((strOfNums l0).extract 12 (strOfNums l0).size)) ++ a1_0) ++ t109) ++ t110) ++ t111).size + t112.size ≤ 9223372036854775807 then (if (((((((((strOfNums l0).extract 0 10) ++ t108) ++ ((strOfNums l0).extract 12 (strOfNums l0).size)) ++ a1_0) ++ t109) ++ t110) ++ t111) ++ t112).size + (((((((⟨#[11, 104, 109, 97, 99, 45, 115, 104, 97, 50, 53, 54, 0]⟩ : ByteArray) ++ t105) ++ (⟨#[1, 44]⟩ : ByteArray)) ++ (⟨#[0, 32]⟩ : ByteArray)) ++ t107) ++ ((strOfNums l0).extract 0 2)) ++ (⟨#[0, 0, 0, 0]⟩ : ByteArray)).size ≤ 9223372036854775807 then (if (((((((((((strOfNums l0).extract 0 10) ++ t108) ++ ((strOfNums l0).extract 12 (strOfNums l0).size)) ++ a1_0) ++ t109) ++ t110) ++ t111) ++ t112) ++ (((((((⟨#[11, 104, 109, 97, 99, 45, 115, 104, 97, 50, 53, 54, 0]⟩ : ByteArray) ++ t105) ++ (⟨#[1, 44]⟩ : ByteArray)) ++ (⟨#[0, 32]⟩ : ByteArray)) ++ t107) ++ ((strOfNums l0).extract 0 2)) ++ (⟨#[0, 0, 0, 0]⟩ : ByteArray))).size : Int) > 65535 then (some (([] : List Int), 11)) else ((xbytes.f ((((((((((strOfNums l0).extract 0 10) ++ t108) ++ ((strOfNums l0).extract 12 (strOfNums l0).size)) ++ a1_0) ++ t109) ++ t110) ++ t111) ++ t112) ++ (((((((⟨#[11, 104, 109, 97, 99, 45, 115, 104, 97, 50, 53, 54, 0]⟩ : ByteArray) ++ t105) ++ (⟨#[1, 44]⟩ : ByteArray)) ++ (⟨#[0, 32]⟩ : ByteArray)) ++ t107) ++ ((strOfNums l0).extract 0 2)) ++ (⟨#[0, 0, 0, 0]⟩ : ByteArray)))).bind fun t113 => (some (t113, 0)))) else (none)) else (none))) else (none))) else (none))) else (none)) = some (r1, r2) := H
                                      have A41 := Aside0.mk A410
                                      clear A410
                                      by_cases c42 : (((((strOfNums l0).extract 0 10) ++ t108) ++ ((strOfNums l0).extract 12 (strOfNums l0).size)) ++ a1_0).size + t109.size ≤ 9223372036854775807
                                      · rw [if_pos c42] at H
                                        have c42b0 := eq_true c42
                                        have c42b1 : decide ((((((strOfNums l0).extract 0 10) ++ t108) ++ ((strOfNums l0).extract 12 (strOfNums l0).size)) ++ a1_0).size + t109.size ≤ 9223372036854775807) = true := decide_eq_true c42
                                        try have c42b2 : (9223372036854775807 < (((((strOfNums l0).extract 0 10) ++ t108) ++ ((strOfNums l0).extract 12 (strOfNums l0).size)) ++ a1_0).size + t109.size) = False := eq_false (Nat.not_lt.2 c42)
                                        try have c42b3 : (9223372036854775807 < ((((min 10 (strOfNums l0).size) + t108.size) + ((strOfNums l0).size - 12)) + a1_0.size) + t109.size) = False := eq_false (Nat.not_lt.2 (by have h := c42; simp only [ByteArray.size_append, ByteArray.size_extract, Nat.min_self, Nat.sub_zero] at h; first | with_reducible exact h | omega))
                                        replace H := Option.bind_eq_some_iff.mp H
                                        obtain ⟨t110, A430, H⟩ := H
                                        replace H : (if ((((((strOfNums l0).extract 0 10) ++ t108) ++ ((strOfNums l0).extract 12 (strOfNums l0).size)) ++ a1_0) ++ t109).size + t110.size ≤ 9223372036854775807 then ((impl_p32.f 0).bind fun t111 => (if (((((((strOfNums l0).extract 0 10) ++ t108) ++ ((strOfNums l0).extract 12 (strOfNums l0).size)) ++ a1_0) ++ t109) ++ t110).size + t111.size ≤ 9223372036854775807 then ((impl_p16.f ((((((((⟨#[11, 104, 109, 97, 99, 45, 115, 104, 97, 50, 53, 54, 0]⟩ : ByteArray) ++ t105) ++ (⟨#[1, 44]⟩ : ByteArray)) ++ (⟨#[0, 32]⟩ : ByteArray)) ++ t107) ++ ((strOfNums l0).extract 0 2)) ++ (⟨#[0, 0, 0, 0]⟩ : ByteArray)).size : Int)).bind fun t112 => (if ((((((((strOfNums l0).extract 0 10) ++ t108) ++ ((strOfNums l0).extract 12 (strOfNums l0).size)) ++ a1_0) ++ t109) ++ t110) ++ t111).size + t112.size ≤ 9223372036854775807 then (if (((((((((strOfNums l0).extract 0 10) ++ t108) ++ ((strOfNums l0).extract 12 (strOfNums l0).size)) ++ a1_0) ++ t109) ++ t110) ++ t111) ++ t112).size + (((((((⟨#[11, 104, 109, 97, 99, 45, 115, 104, 97, 50, 53, 54, 0]⟩ : ByteArray) ++ t105) ++ (⟨#[1, 44]⟩ : ByteArray)) ++ (⟨#[0, 32]⟩ : ByteArray)) ++ t107) ++ ((strOfNums l0).extract 0 2)) ++ (⟨#[0, 0, 0, 0]⟩ : ByteArray)).size ≤ 9223372036854775807 then (if (((((((((((strOfNums l0).extract 0 10) ++ t108) ++ ((strOfNums l0).extract 12 (strOfNums l0).size)) ++ a1_0) ++ t109) ++ t110) ++ t111) ++ t112) ++ (((((((⟨#[11, 104, 109, 97, 99, 45, 115, 104, 97, 50, 53, 54, 0]⟩ : ByteArray) ++ t105) ++ (⟨#[1, 44]⟩ : ByteArray)) ++ (⟨#[0, 32]⟩ : ByteArray)) ++ t107) ++ ((strOfNums l0).extract 0 2)) ++ (⟨#[0, 0, 0, 0]⟩ : ByteArray))).size : Int) > 65535 then (some (([] : List Int), 11)) else ((xbytes.f ((((((((((strOfNums l0).extract 0 10) ++ t108) ++ ((strOfNums l0).extract 12 (strOfNums l0).size)) ++ a1_0) ++ t109) ++ t110) ++ t111) ++ t112) ++ (((((((⟨#[11, 104, 109, 97, 99, 45, 115, 104, 97, 50, 53, 54, 0]⟩ : ByteArray) ++ t105) ++ (⟨#[1, 44]⟩ : ByteArray)) ++ (⟨#[0, 32]⟩ : ByteArray)) ++ t107) ++ ((strOfNums l0).extract 0 2)) ++ (⟨#[0, 0, 0, 0]⟩ : ByteArray)))).bind fun t113 => (some (t113, 0)))) else (none)) else (none))) else (none))) else (none)) = some (r1, r2) := H
                                        have A43 := Aside0.mk A430
                                        clear A430
                                        by_cases c44 : ((((((strOfNums l0).extract 0 10) ++ t108) ++ ((strOfNums l0).extract 12 (strOfNums l0).size)) ++ a1_0) ++ t109).size + t110.size ≤ 9223372036854775807
                                        · rw [if_pos c44] at H
                                          have c44b0 := eq_true c44
                                          have c44b1 : decide (((((((strOfNums l0).extract 0 10) ++ t108) ++ ((strOfNums l0).extract 12 (strOfNums l0).size)) ++ a1_0) ++ t109).size + t110.size ≤ 9223372036854775807) = true := decide_eq_true c44
                                          try have c44b2 : (9223372036854775807 < ((((((strOfNums l0).extract 0 10) ++ t108) ++ ((strOfNums l0).extract 12 (strOfNums l0).size)) ++ a1_0) ++ t109).size + t110.size) = False := eq_false (Nat.not_lt.2 c44)
                                          try have c44b3 : (9223372036854775807 < (((((min 10 (strOfNums l0).size) + t108.size) + ((strOfNums l0).size - 12)) + a1_0.size) + t109.size) + t110.size) = False := eq_false (Nat.not_lt.2 (by have h := c44; simp only [ByteArray.size_append, ByteArray.size_extract, Nat.min_self, Nat.sub_zero] at h; first | with_reducible exact h | omega))
                                          replace H := Option.bind_eq_some_iff.mp H
                                          obtain ⟨t111, A450, H⟩ := H
                                          replace H : (if (((((((strOfNums l0).extract 0 10) ++ t108) ++ ((strOfNums l0).extract 12 (strOfNums l0).size)) ++ a1_0) ++ t109) ++ t110).size + t111.size ≤ 9223372036854775807 then ((impl_p16.f ((((((((⟨#[11, 104, 109, 97, 99, 45, 115, 104, 97, 50, 53, 54, 0]⟩ : ByteArray) ++ t105) ++ (⟨#[1, 44]⟩ : ByteArray)) ++ (⟨#[0, 32]⟩ : ByteArray)) ++ t107) ++ ((strOfNums l0).extract 0 2)) ++ (⟨#[0, 0, 0, 0]⟩ : ByteArray)).size : Int)).bind fun t112 => (if ((((((((strOfNums l0).extract 0 10) ++ t108) ++ ((strOfNums l0).extract 12 (strOfNums l0).size)) ++ a1_0) ++ t109) ++ t110) ++ t111).size + t112.size ≤ 9223372036854775807 then (if (((((((((strOfNums l0).extract 0 10) ++ t108) ++ ((strOfNums l0).extract 12 (strOfNums l0).size)) ++ a1_0) ++ t109) ++ t110) ++ t111) ++ t112).size + (((((((⟨#[11, 104, 109, 97, 99, 45, 115, 104, 97, 50, 53, 54, 0]⟩ : ByteArray) ++ t105) ++ (⟨#[1, 44]⟩ : ByteArray)) ++ (⟨#[0, 32]⟩ : ByteArray)) ++ t107) ++ ((strOfNums l0).extract 0 2)) ++ (⟨#[0, 0, 0, 0]⟩ : ByteArray)).size ≤ 9223372036854775807 then (if (((((((((((strOfNums l0).extract 0 10) ++ t108) ++ ((strOfNums l0).extract 12 (strOfNums l0).size)) ++ a1_0) ++ t109) ++ t110) ++ t111) ++ t112) ++ (((((((⟨#[11, 104, 109, 97, 99, 45, 115, 104, 97, 50, 53, 54, 0]⟩ : ByteArray) ++ t105) ++ (⟨#[1, 44]⟩ : ByteArray)) ++ (⟨#[0, 32]⟩ : ByteArray)) ++ t107) ++ ((strOfNums l0).extract 0 2)) ++ (⟨#[0, 0, 0, 0]⟩ : ByteArray))).size : Int) > 65535 then (some (([] : List Int), 11)) else ((xbytes.f ((((((((((strOfNums l0).extract 0 10) ++ t108) ++ ((strOfNums l0).extract 12 (strOfNums l0).size)) ++ a1_0) ++ t109) ++ t110) ++ t111) ++ t112) ++ (((((((⟨#[11, 104, 109, 97, 99, 45, 115, 104, 97, 50, 53, 54, 0]⟩ : ByteArray) ++ t105) ++ (⟨#[1, 44]⟩ : ByteArray)) ++ (⟨#[0, 32]⟩ : ByteArray)) ++ t107) ++ ((strOfNums l0).extract 0 2)) ++ (⟨#[0, 0, 0, 0]⟩ : ByteArray)))).bind fun t113 => (some (t113, 0)))) else (none)) else (none))) else (none)) = some (r1, r2) := H
                                          have A45 := Aside0.mk A450
                                          clear A450
                                          by_cases c46 : (((((((strOfNums l0).extract 0 10) ++ t108) ++ ((strOfNums l0).extract 12 (strOfNums l0).size)) ++ a1_0) ++ t109) ++ t110).size + t111.size ≤ 9223372036854775807
                                          · rw [if_pos c46] at H
                                            have c46b0 := eq_true c46
                                            have c46b1 : decide ((((((((strOfNums l0).extract 0 10) ++ t108) ++ ((strOfNums l0).extract 12 (strOfNums l0).size)) ++ a1_0) ++ t109) ++ t110).size + t111.size ≤ 9223372036854775807) = true := decide_eq_true c46
                                            try have c46b2 : (9223372036854775807 < (((((((strOfNums l0).extract 0 10) ++ t108) ++ ((strOfNums l0).extract 12 (strOfNums l0).size)) ++ a1_0) ++ t109) ++ t110).size + t111.size) = False := eq_false (Nat.not_lt.2 c46)
                                            try have c46b3 : (9223372036854775807 < ((((((min 10 (strOfNums l0).size) + t108.size) + ((strOfNums l0).size - 12)) + a1_0.size) + t109.size) + t110.size) + t111.size) = False := eq_false (Nat.not_lt.2 (by have h := c46; simp only [ByteArray.size_append, ByteArray.size_extract, Nat.min_self, Nat.sub_zero] at h; first | with_reducible exact h | omega))
                                            replace H := Option.bind_eq_some_iff.mp H
                                            obtain ⟨t112, A470, H⟩ := H
                                            replace H : (if ((((((((strOfNums l0).extract 0 10) ++ t108) ++ ((strOfNums l0).extract 12 (strOfNums l0).size)) ++ a1_0) ++ t109) ++ t110) ++ t111).size + t112.size ≤ 9223372036854775807 then (if (((((((((strOfNums l0).extract 0 10) ++ t108) ++ ((strOfNums l0).extract 12 (strOfNums l0).size)) ++ a1_0) ++ t109) ++ t110) ++ t111) ++ t112).size + (((((((⟨#[11, 104, 109, 97, 99, 45, 115, 104, 97, 50, 53, 54, 0]⟩ : ByteArray) ++ t105) ++ (⟨#[1, 44]⟩ : ByteArray)) ++ (⟨#[0, 32]⟩ : ByteArray)) ++ t107) ++ ((strOfNums l0).extract 0 2)) ++ (⟨#[0, 0, 0, 0]⟩ : ByteArray)).size ≤ 9223372036854775807 then (if (((((((((((strOfNums l0).extract 0 10) ++ t108) ++ ((strOfNums l0).extract 12 (strOfNums l0).size)) ++ a1_0) ++ t109) ++ t110) ++ t111) ++ t112) ++ (((((((⟨#[11, 104, 109, 97, 99, 45, 115, 104, 97, 50, 53, 54, 0]⟩ : ByteArray) ++ t105) ++ (⟨#[1, 44]⟩ : ByteArray)) ++ (⟨#[0, 32]⟩ : ByteArray)) ++ t107) ++ ((strOfNums l0).extract 0 2)) ++ (⟨#[0, 0, 0, 0]⟩ : ByteArray))).size : Int) > 65535 then (some (([] : List Int), 11)) else ((xbytes.f ((((((((((strOfNums l0).extract 0 10) ++ t108) ++ ((strOfNums l0).extract 12 (strOfNums l0).size)) ++ a1_0) ++ t109) ++ t110) ++ t111) ++ t112) ++ (((((((⟨#[11, 104, 109, 97, 99, 45, 115, 104, 97, 50, 53, 54, 0]⟩ : ByteArray) ++ t105) ++ (⟨#[1, 44]⟩ : ByteArray)) ++ (⟨#[0, 32]⟩ : ByteArray)) ++ t107) ++ ((strOfNums l0).extract 0 2)) ++ (⟨#[0, 0, 0, 0]⟩ : ByteArray)))).bind fun t113 => (some (t113, 0)))) else (none)) else (none)) = some (r1, r2) := H
                                            have A47 := Aside0.mk A470
                                            clear A470
                                            by_cases c48 : ((((((((strOfNums l0).extract 0 10) ++ t108) ++ ((strOfNums l0).extract 12 (strOfNums l0).size)) ++ a1_0) ++ t109) ++ t110) ++ t111).size + t112.size ≤ 9223372036854775807
                                            · rw [if_pos c48] at H
                                              have c48b0 := eq_true c48
                                              have c48b1 : decide (((((((((strOfNums l0).extract 0 10) ++ t108) ++ ((strOfNums l0).extract 12 (strOfNums l0).size)) ++ a1_0) ++ t109) ++ t110) ++ t111).size + t112.size ≤ 9223372036854775807) = true := decide_eq_true c48
                                              try have c48b2 : (9223372036854775807 < ((((((((strOfNums l0).extract 0 10) ++ t108) ++ ((strOfNums l0).extract 12 (strOfNums l0).size)) ++ a1_0) ++ t109) ++ t110) ++ t111).size + t112.size) = False := eq_false (Nat.not_lt.2 c48)
                                              try have c48b3 : (9223372036854775807 < (((((((min 10 (strOfNums l0).size) + t108.size) + ((strOfNums l0).size - 12)) + a1_0.size) + t109.size) + t110.size) + t111.size) + t112.size) = False := eq_false (Nat.not_lt.2 (by have h := c48; simp only [ByteArray.size_append, ByteArray.size_extract, Nat.min_self, Nat.sub_zero] at h; first | with_reducible exact h | omega))
                                              by_cases c49 : (((((((((strOfNums l0).extract 0 10) ++ t108) ++ ((strOfNums l0).extract 12 (strOfNums l0).size)) ++ a1_0) ++ t109) ++ t110) ++ t111) ++ t112).size + (((((((⟨#[11, 104, 109, 97, 99, 45, 115, 104, 97, 50, 53, 54, 0]⟩ : ByteArray) ++ t105) ++ (⟨#[1, 44]⟩ : ByteArray)) ++ (⟨#[0, 32]⟩ : ByteArray)) ++ t107) ++ ((strOfNums l0).extract 0 2)) ++ (⟨#[0, 0, 0, 0]⟩ : ByteArray)).size ≤ 9223372036854775807
                                              · rw [if_pos c49] at H
                                                have c49b0 := eq_true c49
                                                have c49b1 : decide ((((((((((strOfNums l0).extract 0 10) ++ t108) ++ ((strOfNums l0).extract 12 (strOfNums l0).size)) ++ a1_0) ++ t109) ++ t110) ++ t111) ++ t112).size + (((((((⟨#[11, 104, 109, 97, 99, 45, 115, 104, 97, 50, 53, 54, 0]⟩ : ByteArray) ++ t105) ++ (⟨#[1, 44]⟩ : ByteArray)) ++ (⟨#[0, 32]⟩ : ByteArray)) ++ t107) ++ ((strOfNums l0).extract 0 2)) ++ (⟨#[0, 0, 0, 0]⟩ : ByteArray)).size ≤ 9223372036854775807) = true := decide_eq_true c49
                                                try have c49b2 : (9223372036854775807 < (((((((((strOfNums l0).extract 0 10) ++ t108) ++ ((strOfNums l0).extract 12 (strOfNums l0).size)) ++ a1_0) ++ t109) ++ t110) ++ t111) ++ t112).size + (((((((⟨#[11, 104, 109, 97, 99, 45, 115, 104, 97, 50, 53, 54, 0]⟩ : ByteArray) ++ t105) ++ (⟨#[1, 44]⟩ : ByteArray)) ++ (⟨#[0, 32]⟩ : ByteArray)) ++ t107) ++ ((strOfNums l0).extract 0 2)) ++ (⟨#[0, 0, 0, 0]⟩ : ByteArray)).size) = False := eq_false (Nat.not_lt.2 c49)
                                                try have c49b3 : (9223372036854775807 < ((((((((min 10 (strOfNums l0).size) + t108.size) + ((strOfNums l0).size - 12)) + a1_0.size) + t109.size) + t110.size) + t111.size) + t112.size) + ((((((13 + t105.size) + 2) + 2) + t107.size) + (min 2 (strOfNums l0).size)) + 4)) = False := eq_false (Nat.not_lt.2 (by have h := c49; simp only [ByteArray.size_append, ByteArray.size_extract, Nat.min_self, Nat.sub_zero, (show (⟨#[0, 0, 0, 0]⟩ : ByteArray).size = 4 from rfl), (show (⟨#[0, 32]⟩ : ByteArray).size = 2 from rfl), (show (⟨#[1, 44]⟩ : ByteArray).size = 2 from rfl), (show (⟨#[11, 104, 109, 97, 99, 45, 115, 104, 97, 50, 53, 54, 0]⟩ : ByteArray).size = 13 from rfl)] at h; first | with_reducible exact h | omega))
                                                by_cases c50 : (((((((((((strOfNums l0).extract 0 10) ++ t108) ++ ((strOfNums l0).extract 12 (strOfNums l0).size)) ++ a1_0) ++ t109) ++ t110) ++ t111) ++ t112) ++ (((((((⟨#[11, 104, 109, 97, 99, 45, 115, 104, 97, 50, 53, 54, 0]⟩ : ByteArray) ++ t105) ++ (⟨#[1, 44]⟩ : ByteArray)) ++ (⟨#[0, 32]⟩ : ByteArray)) ++ t107) ++ ((strOfNums l0).extract 0 2)) ++ (⟨#[0, 0, 0, 0]⟩ : ByteArray))).size : Int) > 65535
                                                · rw [if_pos c50] at H
                                                  have c50b0 : decide (65535 < (((((((((((strOfNums l0).extract 0 10) ++ t108) ++ ((strOfNums l0).extract 12 (strOfNums l0).size)) ++ a1_0) ++ t109) ++ t110) ++ t111) ++ t112) ++ (((((((⟨#[11, 104, 109, 97, 99, 45, 115, 104, 97, 50, 53, 54, 0]⟩ : ByteArray) ++ t105) ++ (⟨#[1, 44]⟩ : ByteArray)) ++ (⟨#[0, 32]⟩ : ByteArray)) ++ t107) ++ ((strOfNums l0).extract 0 2)) ++ (⟨#[0, 0, 0, 0]⟩ : ByteArray))).size : Int)) = true := decide_eq_true c50
                                                  try have c50b2 : (65535 < ((((((((((min 10 (strOfNums l0).size : Nat) : Int) + (t108.size : Int)) + (((strOfNums l0).size - 12 : Nat) : Int)) + (a1_0.size : Int)) + (t109.size : Int)) + (t110.size : Int)) + (t111.size : Int)) + (t112.size : Int)) + ((((((13 + (t105.size : Int)) + 2) + 2) + (t107.size : Int)) + ((min 2 (strOfNums l0).size : Nat) : Int)) + 4))) = True := eq_true (by have h := of_decide_eq_true c50b0; simp only [ByteArray.size_append, ByteArray.size_extract, Nat.min_self, Nat.sub_zero, Int.natCast_add, (show (⟨#[0, 0, 0, 0]⟩ : ByteArray).size = 4 from rfl), (show (⟨#[0, 32]⟩ : ByteArray).size = 2 from rfl), (show (⟨#[1, 44]⟩ : ByteArray).size = 2 from rfl), (show (⟨#[11, 104, 109, 97, 99, 45, 115, 104, 97, 50, 53, 54, 0]⟩ : ByteArray).size = 13 from rfl)] at h; first | with_reducible exact h | omega)
                                                  try have c50b3 : decide (65535 < ((((((((((min 10 (strOfNums l0).size : Nat) : Int) + (t108.size : Int)) + (((strOfNums l0).size - 12 : Nat) : Int)) + (a1_0.size : Int)) + (t109.size : Int)) + (t110.size : Int)) + (t111.size : Int)) + (t112.size : Int)) + ((((((13 + (t105.size : Int)) + 2) + 2) + (t107.size : Int)) + ((min 2 (strOfNums l0).size : Nat) : Int)) + 4))) = true := decide_eq_true (by have h := c50b2; first | exact of_eq_true h | (rw [h]; exact not_false))
                                                  have c50b1 : decide (65535 < ((((((((((strOfNums l0).extract 0 10) ++ t108) ++ ((strOfNums l0).extract 12 (strOfNums l0).size)) ++ a1_0) ++ t109) ++ t110) ++ t111) ++ t112) ++ (((((((⟨#[11, 104, 109, 97, 99, 45, 115, 104, 97, 50, 53, 54, 0]⟩ : ByteArray) ++ t105) ++ (⟨#[1, 44]⟩ : ByteArray)) ++ (⟨#[0, 32]⟩ : ByteArray)) ++ t107) ++ ((strOfNums l0).extract 0 2)) ++ (⟨#[0, 0, 0, 0]⟩ : ByteArray))).size) = true := decide_eq_true (by omega)
                                                  clear c50
                                                  simp only [Option.some.injEq, Prod.mk.injEq] at H
                                                  obtain ⟨rfl, rfl⟩ := H
                                                  have hcv51 := Kd.C_string (P := Tryd.prog) (A := A0) (c := c0) Tryd.underlying22 Tryd.underlying5 Tryd.underlying9 (Kd.C_below HR0.out HB.out)
                                                  try go_wp2_with (first | ((with_reducible refine gate_callee (f := 36) rfl ?_); refine goesL_ (some 36) rfl rfl Tryd.func36 (by kernel_rfl) rfl #[.string ((strOfNums l0).extract 10 (strOfNums l0).size)] rfl (by (try simp only [List.map_toArray, List.map_cons, List.map_nil]); first | done | rfl | (simp only [List.length_drop, List.length_take]; rfl)) ?_; (with_reducible refine (impl_u16.calls ((strOfNums l0).extract 10 (strOfNums l0).size) t104 _ A20.out).mono ?_); rintro e w' ⟨rfl, ⟨nd, rfl⟩⟩; refine ⟨_, rfl, ?_⟩))
                                                  (try (rw [drewN_self wc]; generalize hq_ : World.drewN wc _ = wc; have n0_ : Aside0 (wc.heap[gb101]? = some (.cells #[.string a1_0, .string a1_1] 35 (0, 0))) := ⟨by rw [← hq_]; exact (by (with_reducible repeat (first | refine blk_drewN ?_ _ | refine blk_drew ?_ | refine blk_alloc ?_ _)); exact BK101.out)⟩; have n1_ : Aside0 (Below w.heap.size w wc) := ⟨by rw [← hq_]; exact (by repeat (first | (with_reducible first | exact HB.out | apply below_alloc | apply pw_below_drewN | apply below_drew1 | refine below_set ?_ GE101.out) | exact HB.out))⟩; clear BK101 HB hq_; have BK101 := n0_; have HB := n1_; clear n0_ n1_))
                                                  have n0_ := Aside0.mk (blk_drew BK101.out)
                                                  have n1_ := Aside0.mk (below_drew1 HB.out)
                                                  clear BK101
                                                  clear HB
                                                  have BK101 := n0_
                                                  have HB := n1_
                                                  clear n0_ n1_
                                                  refine start_ (n := 17) (S := fun w' => w'.cell? ⟨gb101, 0, none⟩ = some (.string a1_0) ∧ w'.cell? ⟨gb101, 1, none⟩ = some (.string a1_1)) (ds := []) #[false, false, false, false, false, false, false, false, false, false, false, false, false, false, false, false, false] (by kernel_rfl) rfl rfl ⟨(blk_cell BK101.out 0).trans rfl, (blk_cell BK101.out 1).trans rfl⟩ (fun hHeld => ?_); refine with_tabW impl_Sign.tab7 impl_Sign.bits7 (fun HT_ HW_ => ?_)
                                                  generalize wc.drew = w52 at BK101 HB hHeld ⊢
                                                  refine pure_ (i := 0) (N := some 39) (v := ?_) (a' := ?_) #[true, false, false, false, false, false, false, false, false, false, false, false, false, false, false, false, false] rfl rfl (any_of HT_.out (by kernel_rfl)) (fun _ _ _ h => h) (Or.inl ⟨by rfl, ?_⟩) ?_ ?_
                                                  rotate_left
                                                  · intro w'
                                                    go_simp
                                                    with_reducible rfl
                                                  rotate_left
                                                  · simp only [Act.put, List.setIfInBounds_toArray, List.set_cons_zero, List.set_cons_succ, i64_w, i32_w]
                                                    rfl
                                                  refine pure_ (i := 6) (N := some 45) (v := ?_) (a' := ?_) #[true, false, false, false, false, false, true, false, false, false, false, false, false, false, false, false, false] rfl rfl (any_of HT_.out (by kernel_rfl)) (fun _ _ _ h => h) (Or.inl ⟨by rfl, ?_⟩) ?_ ?_
                                                  rotate_left
                                                  · intro w'
                                                    go_simp
                                                    with_reducible rfl
                                                  rotate_left
                                                  · simp only [Act.put, List.setIfInBounds_toArray, List.set_cons_zero, List.set_cons_succ, i64_w, i32_w]
                                                    rfl
                                                  refine pure_ (i := 7) (N := some 46) (v := ?_) (a' := ?_) #[true, false, false, false, false, false, true, true, false, false, false, false, false, false, false, false, false] rfl rfl (any_of HT_.out (by kernel_rfl)) (fun _ _ _ h => h) (Or.inl ⟨by rfl, ?_⟩) ?_ ?_
                                                  rotate_left
                                                  · intro w'
                                                    go_simp
                                                    with_reducible rfl
                                                  rotate_left
                                                  · simp only [Act.put, List.setIfInBounds_toArray, List.set_cons_zero, List.set_cons_succ, i64_w, i32_w]
                                                    rfl
                                                  refine pure_ (i := 8) (N := some 47) (v := ?_) (a' := ?_) #[true, false, false, false, false, false, true, true, true, false, false, false, false, false, false, false, false] rfl rfl (any_of HT_.out (by kernel_rfl)) (fun _ _ _ h => h) (Or.inl ⟨by rfl, ?_⟩) ?_ ?_
                                                  rotate_left
                                                  · intro w'
                                                    go_simp
                                                    with_reducible rfl
                                                  rotate_left
                                                  · simp only [Act.put, List.setIfInBounds_toArray, List.set_cons_zero, List.set_cons_succ, i64_w, i32_w]
                                                    rfl
                                                  refine pure_ (i := 12) (N := some 51) (v := ?_) (a' := ?_) #[true, false, false, false, false, false, true, true, true, false, false, false, true, false, false, false, false] rfl rfl (any_of HT_.out (by kernel_rfl)) (fun _ _ _ h => h) (Or.inl ⟨by rfl, ?_⟩) ?_ ?_
                                                  rotate_left
                                                  · intro w'
                                                    go_simp
                                                    with_reducible rfl
                                                  rotate_left
                                                  · simp only [Act.put, List.setIfInBounds_toArray, List.set_cons_zero, List.set_cons_succ, i64_w, i32_w]
                                                    rfl
                                                  refine pure_ (i := 13) (N := some 52) (v := ?_) (a' := ?_) #[true, false, false, false, false, false, true, true, true, false, false, false, true, true, false, false, false] rfl rfl (any_of HT_.out (by kernel_rfl)) (fun _ _ _ h => h) (Or.inl ⟨by rfl, ?_⟩) ?_ ?_
                                                  rotate_left
                                                  · intro w'
                                                    go_simp
                                                    with_reducible rfl
                                                  rotate_left
                                                  · simp only [Act.put, List.setIfInBounds_toArray, List.set_cons_zero, List.set_cons_succ, i64_w, i32_w]
                                                    rfl
                                                  refine take_ (i := 5) (N := some 44) (v := ?_) (a' := ?_) #[true, false, false, false, false, true, true, true, true, false, false, false, true, true, false, false, false] rfl rfl (take_ofW HT_.out HW_.out (by kernel_rfl)) (fun _ _ _ h => h) (Or.inl ⟨by rfl, ?_⟩) hHeld ?_ ?_
                                                  rotate_left
                                                  · rintro w' ⟨s0, s1⟩
                                                    go_simp
                                                    with_reducible rfl
                                                  rotate_left
                                                  · simp only [Act.put, List.setIfInBounds_toArray, List.set_cons_zero, List.set_cons_succ, i64_w, i32_w]
                                                    rfl
                                                  refine one_ (i := 1) (N := some 40) #[true, true, false, false, false, true, true, true, true, false, false, false, true, true, false, false, false] rfl rfl (one_of HT_.out (by kernel_rfl)) (by decide) (fun K hK => ?_)
                                                  refine goes_ Tryd.func37 (by kernel_rfl) rfl #[.int .i64 a2] (by rfl) rfl rfl (by (try simp only [List.map_toArray, List.map_cons, List.map_nil]); first | done | rfl | (simp only [List.length_drop, List.length_take]; rfl)) ?_
                                                  with_reducible refine (impl_p48.calls a2 t105 _ A23.out).mono ?_
                                                  rintro e w53 ⟨rfl, hb⟩
                                                  refine ⟨_, rfl, ?_⟩
                                                  have n0_ := Aside0.mk (blk_below (g := gb101) (o := .cells #[.string a1_0, .string a1_1] 35 (0, 0)) (by (with_reducible repeat (first | refine blk_drewN ?_ _ | refine blk_drew ?_ | refine blk_alloc ?_ _)); exact BK101.out) hb)
                                                  have n1_ := Aside0.mk (below_step (by repeat (first | (with_reducible first | exact HB.out | apply below_alloc | apply pw_below_drewN | apply below_drew1 | refine below_set ?_ GE101.out) | exact HB.out)) hb)
                                                  clear BK101
                                                  clear HB
                                                  have BK101 := n0_
                                                  have HB := n1_
                                                  clear n0_ n1_
                                                  (try clear hb)
                                                  (try clear hb2)
                                                  (try clear hk)
                                                  (try clear hi)
                                                  refine hK.out _ _ ⟨(blk_cell BK101.out 0).trans rfl, (blk_cell BK101.out 1).trans rfl⟩ (fun hHeld => ?_)
                                                  clear hK K
                                                  refine norm_ (a' := ?_) ?_ ?_
                                                  rotate_left
                                                  · show Act.put _ (some 40) _ = _
                                                    simp only [Act.put, List.setIfInBounds_toArray, List.set_cons_zero, List.set_cons_succ, i64_w, i32_w]
                                                    rfl
                                                  refine pure_ (i := 2) (N := some 41) (v := ?_) (a' := ?_) #[true, true, true, false, false, true, true, true, true, false, false, false, true, true, false, false, false] rfl rfl (any_of HT_.out (by kernel_rfl)) (fun _ _ _ h => h) (Or.inl ⟨by rfl, ?_⟩) ?_ ?_
                                                  rotate_left
                                                  · intro w'
                                                    go_simp
                                                    with_reducible rfl
                                                  rotate_left
                                                  · simp only [Act.put, List.setIfInBounds_toArray, List.set_cons_zero, List.set_cons_succ, i64_w, i32_w]
                                                    rfl
                                                  refine pure_ (i := 3) (N := some 42) (v := ?_) (a' := ?_) #[true, true, true, true, false, true, true, true, true, false, false, false, true, true, false, false, false] rfl rfl (any_of HT_.out (by kernel_rfl)) (fun _ _ _ h => h) (Or.inl ⟨by rfl, ?_⟩) ?_ ?_
                                                  rotate_left
                                                  · intro w'
                                                    go_simp
                                                    with_reducible rfl
                                                  rotate_left
                                                  · simp only [Act.put, List.setIfInBounds_toArray, List.set_cons_zero, List.set_cons_succ, i64_w, i32_w]
                                                    rfl
                                                  refine pure_ (i := 4) (N := some 43) (v := ?_) (a' := ?_) #[true, true, true, true, true, true, true, true, true, false, false, false, true, true, false, false, false] rfl rfl (any_of HT_.out (by kernel_rfl)) (fun _ _ _ h => h) (Or.inl ⟨by rfl, ?_⟩) ?_ ?_
                                                  rotate_left
                                                  · intro w'
                                                    go_simp
                                                    with_reducible rfl
                                                  rotate_left
                                                  · simp only [Act.put, List.setIfInBounds_toArray, List.set_cons_zero, List.set_cons_succ, i64_w, i32_w]
                                                    rfl
                                                  refine one_ (i := 9) (N := some 48) #[true, true, true, true, true, true, true, true, true, true, false, false, true, true, false, false, false] rfl rfl (one_of HT_.out (by kernel_rfl)) (by decide) (fun K hK => ?_)
                                                  refine goes_ Tryd.func37 (by kernel_rfl) rfl #[.int .i64 a2] (by rfl) rfl rfl (by (try simp only [List.map_toArray, List.map_cons, List.map_nil]); first | done | rfl | (simp only [List.length_drop, List.length_take]; rfl)) ?_
                                                  with_reducible refine (impl_p48.calls a2 t106 _ A27.out).mono ?_
                                                  rintro e w54 ⟨rfl, hb⟩
                                                  refine ⟨_, rfl, ?_⟩
                                                  have n0_ := Aside0.mk (blk_below (g := gb101) (o := .cells #[.string a1_0, .string a1_1] 35 (0, 0)) (by (with_reducible repeat (first | refine blk_drewN ?_ _ | refine blk_drew ?_ | refine blk_alloc ?_ _)); exact BK101.out) hb)
                                                  have n1_ := Aside0.mk (below_step (by repeat (first | (with_reducible first | exact HB.out | apply below_alloc | apply pw_below_drewN | apply below_drew1 | refine below_set ?_ GE101.out) | exact HB.out)) hb)
                                                  clear BK101
                                                  clear HB
                                                  have BK101 := n0_
                                                  have HB := n1_
                                                  clear n0_ n1_
                                                  (try clear hb)
                                                  (try clear hb2)
                                                  (try clear hk)
                                                  (try clear hi)
                                                  refine hK.out _ _ ⟨(blk_cell BK101.out 0).trans rfl, (blk_cell BK101.out 1).trans rfl⟩ (fun hHeld => ?_)
                                                  clear hK K
                                                  refine norm_ (a' := ?_) ?_ ?_
                                                  rotate_left
                                                  · show Act.put _ (some 48) _ = _
                                                    simp only [Act.put, List.setIfInBounds_toArray, List.set_cons_zero, List.set_cons_succ, i64_w, i32_w]
                                                    rfl
                                                  refine one_ (i := 10) (N := some 49) #[true, true, true, true, true, true, true, true, true, true, true, false, true, true, false, false, false] rfl rfl (one_of HT_.out (by kernel_rfl)) (by decide) (fun K hK => ?_)
                                                  refine goes_ Tryd.func38 (by kernel_rfl) rfl #[.agg #[.string a1_0, .string a1_1], .string (strOfNums l0), .string a3, .string t106, .string (⟨#[1, 44]⟩ : ByteArray)] (by rfl) rfl rfl (by (try simp only [List.map_toArray, List.map_cons, List.map_nil]); first | done | rfl | (simp only [List.length_drop, List.length_take]; rfl)) ?_
                                                  with_reducible refine (impl_sumOf.calls a1_0 a1_1 (strOfNums l0) a3 t106 (⟨#[1, 44]⟩ : ByteArray) t107 _ A28.out (HGK.out.below (by repeat (first | (with_reducible first | exact HB.out | apply below_alloc | apply pw_below_drewN | apply below_drew1) | exact HB.out)))).mono ?_
                                                  rintro e w55 ⟨rfl, hb⟩
                                                  refine ⟨_, rfl, ?_⟩
                                                  have n0_ := Aside0.mk (blk_below (g := gb101) (o := .cells #[.string a1_0, .string a1_1] 35 (0, 0)) (by (with_reducible repeat (first | refine blk_drewN ?_ _ | refine blk_drew ?_ | refine blk_alloc ?_ _)); exact BK101.out) hb)
                                                  have n1_ := Aside0.mk (below_step (by repeat (first | (with_reducible first | exact HB.out | apply below_alloc | apply pw_below_drewN | apply below_drew1 | refine below_set ?_ GE101.out) | exact HB.out)) hb)
                                                  clear BK101
                                                  clear HB
                                                  have BK101 := n0_
                                                  have HB := n1_
                                                  clear n0_ n1_
                                                  (try clear hb)
                                                  (try clear hb2)
                                                  (try clear hk)
                                                  (try clear hi)
                                                  refine hK.out _ _ ⟨(blk_cell BK101.out 0).trans rfl, (blk_cell BK101.out 1).trans rfl⟩ (fun hHeld => ?_)
                                                  clear hK K
                                                  refine norm_ (a' := ?_) ?_ ?_
                                                  rotate_left
                                                  · show Act.put _ (some 49) _ = _
                                                    simp only [Act.put, List.setIfInBounds_toArray, List.set_cons_zero, List.set_cons_succ, i64_w, i32_w]
                                                    rfl
                                                  refine pure_ (i := 11) (N := some 50) (v := ?_) (a' := ?_) #[true, true, true, true, true, true, true, true, true, true, true, true, true, true, false, false, false] rfl rfl (any_of HT_.out (by kernel_rfl)) (fun _ _ _ h => h) (Or.inl ⟨by rfl, ?_⟩) ?_ ?_
                                                  rotate_left
                                                  · intro w'
                                                    go_simp
                                                    with_reducible rfl
                                                  rotate_left
                                                  · simp only [Act.put, List.setIfInBounds_toArray, List.set_cons_zero, List.set_cons_succ, i64_w, i32_w]
                                                    rfl
                                                  refine pure_ (i := 14) (N := some 53) (v := ?_) (a' := ?_) #[true, true, true, true, true, true, true, true, true, true, true, true, true, true, true, false, false] rfl rfl (any_of HT_.out (by kernel_rfl)) (fun _ _ _ h => h) (Or.inl ⟨by rfl, ?_⟩) ?_ ?_
                                                  rotate_left
                                                  · intro w'
                                                    go_simp
                                                    with_reducible rfl
                                                  rotate_left
                                                  · simp only [Act.put, List.setIfInBounds_toArray, List.set_cons_zero, List.set_cons_succ, i64_w, i32_w]
                                                    rfl
                                                  refine pure_ (i := 15) (N := some 54) (v := ?_) (a' := ?_) #[true, true, true, true, true, true, true, true, true, true, true, true, true, true, true, true, false] rfl rfl (any_of HT_.out (by kernel_rfl)) (fun _ _ _ h => h) (Or.inl ⟨by rfl, ?_⟩) ?_ ?_
                                                  rotate_left
                                                  · intro w'
                                                    go_simp
                                                    with_reducible rfl
                                                  rotate_left
                                                  · simp only [Act.put, List.setIfInBounds_toArray, List.set_cons_zero, List.set_cons_succ, i64_w, i32_w]
                                                    rfl
                                                  refine pure_ (i := 16) (N := some 12) (v := ?_) (a' := ?_) #[true, true, true, true, true, true, true, true, true, true, true, true, true, true, true, true, true] rfl rfl (any_of HT_.out (by kernel_rfl)) (fun _ _ _ h => h) (Or.inl ⟨by rfl, ?_⟩) ?_ ?_
                                                  rotate_left
                                                  · intro w'
                                                    go_simp
                                                    with_reducible rfl
                                                  rotate_left
                                                  · simp only [Act.put, List.setIfInBounds_toArray, List.set_cons_zero, List.set_cons_succ, i64_w, i32_w]
                                                    rfl
                                                  refine done_ (done_of HT_.out (by kernel_rfl)) ?_
                                                  try go_wp2
                                                  have n0_ := Aside0.mk (blk_drew BK101.out)
                                                  have n1_ := Aside0.mk (below_drew1 HB.out)
                                                  clear BK101
                                                  clear HB
                                                  have BK101 := n0_
                                                  have HB := n1_
                                                  clear n0_ n1_
                                                  refine start_ (n := 25) (S := fun w' => w'.cell? ⟨gb101, 0, none⟩ = some (.string a1_0) ∧ w'.cell? ⟨gb101, 1, none⟩ = some (.string a1_1)) (ds := []) #[false, false, false, false, false, false, false, false, false, false, false, false, false, false, false, false, false, false, false, false, false, false, false, false, false] (by kernel_rfl) rfl rfl ⟨(blk_cell BK101.out 0).trans rfl, (blk_cell BK101.out 1).trans rfl⟩ (fun hHeld => ?_); refine with_tabW impl_Sign.tab8 impl_Sign.bits8 (fun HT_ HW_ => ?_)
                                                  generalize w55.drew = w56 at BK101 HB hHeld ⊢
                                                  refine pure_ (i := 0) (N := some 55) (v := ?_) (a' := ?_) #[true, false, false, false, false, false, false, false, false, false, false, false, false, false, false, false, false, false, false, false, false, false, false, false, false] rfl rfl (any_of HT_.out (by kernel_rfl)) (fun _ _ _ h => h) (Or.inl ⟨by rfl, ?_⟩) ?_ ?_
                                                  rotate_left
                                                  · intro w'
                                                    go_simp
                                                    with_reducible rfl
                                                  rotate_left
                                                  · simp only [Act.put, List.setIfInBounds_toArray, List.set_cons_zero, List.set_cons_succ, i64_w, i32_w]
                                                    rfl
                                                  refine pure_ (i := 1) (N := some 56) (v := ?_) (a' := ?_) #[true, true, false, false, false, false, false, false, false, false, false, false, false, false, false, false, false, false, false, false, false, false, false, false, false] rfl rfl (any_of HT_.out (by kernel_rfl)) (fun _ _ _ h => h) (Or.inl ⟨by rfl, ?_⟩) ?_ ?_
                                                  rotate_left
                                                  · intro w'
                                                    go_simp
                                                    with_reducible rfl
                                                  rotate_left
                                                  · simp only [Act.put, List.setIfInBounds_toArray, List.set_cons_zero, List.set_cons_succ, i64_w, i32_w]
                                                    rfl
                                                  refine pure_ (i := 2) (N := some 57) (v := ?_) (a' := ?_) #[true, true, true, false, false, false, false, false, false, false, false, false, false, false, false, false, false, false, false, false, false, false, false, false, false] rfl rfl (any_of HT_.out (by kernel_rfl)) (fun _ _ _ h => h) (Or.inl ⟨by rfl, ?_⟩) ?_ ?_
                                                  rotate_left
                                                  · intro w'
                                                    go_simp
                                                    with_reducible rfl
                                                  rotate_left
                                                  · simp only [Act.put, List.setIfInBounds_toArray, List.set_cons_zero, List.set_cons_succ, i64_w, i32_w]
                                                    rfl
                                                  refine pure_ (i := 3) (N := some 58) (v := ?_) (a' := ?_) #[true, true, true, true, false, false, false, false, false, false, false, false, false, false, false, false, false, false, false, false, false, false, false, false, false] rfl rfl (any_of HT_.out (by kernel_rfl)) (fun _ _ _ h => h) (Or.inl ⟨by rfl, ?_⟩) ?_ ?_
                                                  rotate_left
                                                  · intro w'
                                                    go_simp
                                                    with_reducible rfl
                                                  rotate_left
                                                  · simp only [Act.put, List.setIfInBounds_toArray, List.set_cons_zero, List.set_cons_succ, i64_w, i32_w]
                                                    rfl
                                                  refine pure_ (i := 6) (N := some 61) (v := ?_) (a' := ?_) #[true, true, true, true, false, false, true, false, false, false, false, false, false, false, false, false, false, false, false, false, false, false, false, false, false] rfl rfl (any_of HT_.out (by kernel_rfl)) (fun _ _ _ h => h) (Or.inl ⟨by rfl, ?_⟩) ?_ ?_
                                                  rotate_left
                                                  · intro w'
                                                    go_simp
                                                    with_reducible rfl
                                                  rotate_left
                                                  · simp only [Act.put, List.setIfInBounds_toArray, List.set_cons_zero, List.set_cons_succ, i64_w, i32_w]
                                                    rfl
                                                  refine pure_ (i := 7) (N := some 62) (v := ?_) (a' := ?_) #[true, true, true, true, false, false, true, true, false, false, false, false, false, false, false, false, false, false, false, false, false, false, false, false, false] rfl rfl (any_of HT_.out (by kernel_rfl)) (fun _ _ _ h => h) (Or.inl ⟨by rfl, ?_⟩) ?_ ?_
                                                  rotate_left
                                                  · intro w'
                                                    go_simp
                                                    with_reducible rfl
                                                  rotate_left
                                                  · simp only [Act.put, List.setIfInBounds_toArray, List.set_cons_zero, List.set_cons_succ, i64_w, i32_w]
                                                    rfl
                                                  refine pure_ (i := 9) (N := some 64) (v := ?_) (a' := ?_) #[true, true, true, true, false, false, true, true, false, true, false, false, false, false, false, false, false, false, false, false, false, false, false, false, false] rfl rfl (any_of HT_.out (by kernel_rfl)) (fun _ _ _ h => h) (Or.inl ⟨by rfl, ?_⟩) ?_ ?_
                                                  rotate_left
                                                  · intro w'
                                                    go_simp
                                                    with_reducible rfl
                                                  rotate_left
                                                  · simp only [Act.put, List.setIfInBounds_toArray, List.set_cons_zero, List.set_cons_succ, i64_w, i32_w]
                                                    rfl
                                                  refine pure_ (i := 18) (N := some 73) (v := ?_) (a' := ?_) #[true, true, true, true, false, false, true, true, false, true, false, false, false, false, false, false, false, false, true, false, false, false, false, false, false] rfl rfl (any_of HT_.out (by kernel_rfl)) (fun _ _ _ h => h) (Or.inl ⟨by rfl, ?_⟩) ?_ ?_
                                                  rotate_left
                                                  · intro w'
                                                    go_simp
                                                    with_reducible rfl
                                                  rotate_left
                                                  · simp only [Act.put, List.setIfInBounds_toArray, List.set_cons_zero, List.set_cons_succ, i64_w, i32_w]
                                                    rfl
                                                  refine pure_ (i := 19) (N := some 74) (v := ?_) (a' := ?_) #[true, true, true, true, false, false, true, true, false, true, false, false, false, false, false, false, false, false, true, true, false, false, false, false, false] rfl rfl (any_of HT_.out (by kernel_rfl)) (fun _ _ _ h => h) (Or.inl ⟨by rfl, ?_⟩) ?_ ?_
                                                  rotate_left
                                                  · intro w'
                                                    go_simp
                                                    with_reducible rfl
                                                  rotate_left
                                                  · simp only [Act.put, List.setIfInBounds_toArray, List.set_cons_zero, List.set_cons_succ, i64_w, i32_w]
                                                    rfl
                                                  refine pure_ (i := 22) (N := some 77) (v := ?_) (a' := ?_) #[true, true, true, true, false, false, true, true, false, true, false, false, false, false, false, false, false, false, true, true, false, false, true, false, false] rfl rfl (any_of HT_.out (by kernel_rfl)) (fun _ _ _ h => h) (Or.inl ⟨by rfl, ?_⟩) ?_ ?_
                                                  rotate_left
                                                  · intro w'
                                                    go_simp
                                                    with_reducible rfl
                                                  rotate_left
                                                  · simp only [Act.put, List.setIfInBounds_toArray, List.set_cons_zero, List.set_cons_succ, i64_w, i32_w]
                                                    rfl
                                                  refine take_ (i := 10) (N := some 65) (v := ?_) (a' := ?_) #[true, true, true, true, false, false, true, true, false, true, true, false, false, false, false, false, false, false, true, true, false, false, true, false, false] rfl rfl (take_ofW HT_.out HW_.out (by kernel_rfl)) (fun _ _ _ h => h) (Or.inl ⟨by rfl, ?_⟩) hHeld ?_ ?_
                                                  rotate_left
                                                  · rintro w' ⟨s0, s1⟩
                                                    go_simp
                                                    with_reducible rfl
                                                  rotate_left
                                                  · simp only [Act.put, List.setIfInBounds_toArray, List.set_cons_zero, List.set_cons_succ, i64_w, i32_w]
                                                    rfl
                                                  refine one_ (i := 4) (N := some 59) #[true, true, true, true, true, false, true, true, false, true, true, false, false, false, false, false, false, false, true, true, false, false, true, false, false] rfl rfl (one_of HT_.out (by kernel_rfl)) (by decide) (fun K hK => ?_)
                                                  refine goes_ Tryd.func39 (by kernel_rfl) rfl #[.int .i64 (wrap64 (t104 + 1))] (by rfl) rfl rfl (by (try simp only [List.map_toArray, List.map_cons, List.map_nil]); first | done | rfl | (simp only [List.length_drop, List.length_take]; rfl)) ?_
                                                  with_reducible refine (impl_p16.calls (wrap64 (t104 + 1)) t108 _ A36.out).mono ?_
                                                  rintro e w57 ⟨rfl, hb⟩
                                                  refine ⟨_, rfl, ?_⟩
                                                  have n0_ := Aside0.mk (blk_below (g := gb101) (o := .cells #[.string a1_0, .string a1_1] 35 (0, 0)) (by (with_reducible repeat (first | refine blk_drewN ?_ _ | refine blk_drew ?_ | refine blk_alloc ?_ _)); exact BK101.out) hb)
                                                  have n1_ := Aside0.mk (below_step (by repeat (first | (with_reducible first | exact HB.out | apply below_alloc | apply pw_below_drewN | apply below_drew1 | refine below_set ?_ GE101.out) | exact HB.out)) hb)
                                                  clear BK101
                                                  clear HB
                                                  have BK101 := n0_
                                                  have HB := n1_
                                                  clear n0_ n1_
                                                  (try clear hb)
                                                  (try clear hb2)
                                                  (try clear hk)
                                                  (try clear hi)
                                                  refine hK.out _ _ ⟨(blk_cell BK101.out 0).trans rfl, (blk_cell BK101.out 1).trans rfl⟩ (fun hHeld => ?_)
                                                  clear hK K
                                                  refine norm_ (a' := ?_) ?_ ?_
                                                  rotate_left
                                                  · show Act.put _ (some 59) _ = _
                                                    simp only [Act.put, List.setIfInBounds_toArray, List.set_cons_zero, List.set_cons_succ, i64_w, i32_w]
                                                    rfl
                                                  refine pure_ (i := 5) (N := some 60) (v := ?_) (a' := ?_) #[true, true, true, true, true, true, true, true, false, true, true, false, false, false, false, false, false, false, true, true, false, false, true, false, false] rfl rfl (any_of HT_.out (by kernel_rfl)) (fun _ _ _ h => h) (Or.inl ⟨by rfl, ?_⟩) ?_ ?_
                                                  rotate_left
                                                  · intro w'
                                                    go_simp
                                                    with_reducible rfl
                                                  rotate_left
                                                  · simp only [Act.put, List.setIfInBounds_toArray, List.set_cons_zero, List.set_cons_succ, i64_w, i32_w]
                                                    rfl
                                                  refine pure_ (i := 8) (N := some 63) (v := ?_) (a' := ?_) #[true, true, true, true, true, true, true, true, true, true, true, false, false, false, false, false, false, false, true, true, false, false, true, false, false] rfl rfl (any_of HT_.out (by kernel_rfl)) (fun _ _ _ h => h) (Or.inl ⟨by rfl, ?_⟩) ?_ ?_
                                                  rotate_left
                                                  · intro w'
                                                    go_simp
                                                    with_reducible rfl
                                                  rotate_left
                                                  · simp only [Act.put, List.setIfInBounds_toArray, List.set_cons_zero, List.set_cons_succ, i64_w, i32_w]
                                                    rfl
                                                  refine pure_ (i := 11) (N := some 66) (v := ?_) (a' := ?_) #[true, true, true, true, true, true, true, true, true, true, true, true, false, false, false, false, false, false, true, true, false, false, true, false, false] rfl rfl (any_of HT_.out (by kernel_rfl)) (fun _ _ _ h => h) (Or.inl ⟨by rfl, ?_⟩) ?_ ?_
                                                  rotate_left
                                                  · intro w'
                                                    go_simp
                                                    with_reducible rfl
                                                  rotate_left
                                                  · simp only [Act.put, List.setIfInBounds_toArray, List.set_cons_zero, List.set_cons_succ, i64_w, i32_w]
                                                    rfl
                                                  refine one_ (i := 12) (N := some 67) #[true, true, true, true, true, true, true, true, true, true, true, true, true, false, false, false, false, false, true, true, false, false, true, false, false] rfl rfl (one_of HT_.out (by kernel_rfl)) (by decide) (fun K hK => ?_)
                                                  refine goes_ Tryd.func39 (by kernel_rfl) rfl #[.int .i64 250] (by rfl) rfl rfl (by (try simp only [List.map_toArray, List.map_cons, List.map_nil]); first | done | rfl | (simp only [List.length_drop, List.length_take]; rfl)) ?_
                                                  with_reducible refine (impl_p16.calls 250 t109 _ A41.out).mono ?_
                                                  rintro e w58 ⟨rfl, hb⟩
                                                  refine ⟨_, rfl, ?_⟩
                                                  have n0_ := Aside0.mk (blk_below (g := gb101) (o := .cells #[.string a1_0, .string a1_1] 35 (0, 0)) (by (with_reducible repeat (first | refine blk_drewN ?_ _ | refine blk_drew ?_ | refine blk_alloc ?_ _)); exact BK101.out) hb)
                                                  have n1_ := Aside0.mk (below_step (by repeat (first | (with_reducible first | exact HB.out | apply below_alloc | apply pw_below_drewN | apply below_drew1 | refine below_set ?_ GE101.out) | exact HB.out)) hb)
                                                  clear BK101
                                                  clear HB
                                                  have BK101 := n0_
                                                  have HB := n1_
                                                  clear n0_ n1_
                                                  (try clear hb)
                                                  (try clear hb2)
                                                  (try clear hk)
                                                  (try clear hi)
                                                  refine hK.out _ _ ⟨(blk_cell BK101.out 0).trans rfl, (blk_cell BK101.out 1).trans rfl⟩ (fun hHeld => ?_)
                                                  clear hK K
                                                  refine norm_ (a' := ?_) ?_ ?_
                                                  rotate_left
                                                  · show Act.put _ (some 67) _ = _
                                                    simp only [Act.put, List.setIfInBounds_toArray, List.set_cons_zero, List.set_cons_succ, i64_w, i32_w]
                                                    rfl
                                                  refine pure_ (i := 13) (N := some 68) (v := ?_) (a' := ?_) #[true, true, true, true, true, true, true, true, true, true, true, true, true, true, false, false, false, false, true, true, false, false, true, false, false] rfl rfl (any_of HT_.out (by kernel_rfl)) (fun _ _ _ h => h) (Or.inl ⟨by rfl, ?_⟩) ?_ ?_
                                                  rotate_left
                                                  · intro w'
                                                    go_simp
                                                    with_reducible rfl
                                                  rotate_left
                                                  · simp only [Act.put, List.setIfInBounds_toArray, List.set_cons_zero, List.set_cons_succ, i64_w, i32_w]
                                                    rfl
                                                  refine one_ (i := 14) (N := some 69) #[true, true, true, true, true, true, true, true, true, true, true, true, true, true, true, false, false, false, true, true, false, false, true, false, false] rfl rfl (one_of HT_.out (by kernel_rfl)) (by decide) (fun K hK => ?_)
                                                  refine goes_ Tryd.func39 (by kernel_rfl) rfl #[.int .i64 255] (by rfl) rfl rfl (by (try simp only [List.map_toArray, List.map_cons, List.map_nil]); first | done | rfl | (simp only [List.length_drop, List.length_take]; rfl)) ?_
                                                  with_reducible refine (impl_p16.calls 255 t110 _ A43.out).mono ?_
                                                  rintro e w59 ⟨rfl, hb⟩
                                                  refine ⟨_, rfl, ?_⟩
                                                  have n0_ := Aside0.mk (blk_below (g := gb101) (o := .cells #[.string a1_0, .string a1_1] 35 (0, 0)) (by (with_reducible repeat (first | refine blk_drewN ?_ _ | refine blk_drew ?_ | refine blk_alloc ?_ _)); exact BK101.out) hb)
                                                  have n1_ := Aside0.mk (below_step (by repeat (first | (with_reducible first | exact HB.out | apply below_alloc | apply pw_below_drewN | apply below_drew1 | refine below_set ?_ GE101.out) | exact HB.out)) hb)
                                                  clear BK101
                                                  clear HB
                                                  have BK101 := n0_
                                                  have HB := n1_
                                                  clear n0_ n1_
                                                  (try clear hb)
                                                  (try clear hb2)
                                                  (try clear hk)
                                                  (try clear hi)
                                                  refine hK.out _ _ ⟨(blk_cell BK101.out 0).trans rfl, (blk_cell BK101.out 1).trans rfl⟩ (fun hHeld => ?_)
                                                  clear hK K
                                                  refine norm_ (a' := ?_) ?_ ?_
                                                  rotate_left
                                                  · show Act.put _ (some 69) _ = _
                                                    simp only [Act.put, List.setIfInBounds_toArray, List.set_cons_zero, List.set_cons_succ, i64_w, i32_w]
                                                    rfl
                                                  refine pure_ (i := 15) (N := some 70) (v := ?_) (a' := ?_) #[true, true, true, true, true, true, true, true, true, true, true, true, true, true, true, true, false, false, true, true, false, false, true, false, false] rfl rfl (any_of HT_.out (by kernel_rfl)) (fun _ _ _ h => h) (Or.inl ⟨by rfl, ?_⟩) ?_ ?_
                                                  rotate_left
                                                  · intro w'
                                                    go_simp
                                                    with_reducible rfl
                                                  rotate_left
                                                  · simp only [Act.put, List.setIfInBounds_toArray, List.set_cons_zero, List.set_cons_succ, i64_w, i32_w]
                                                    rfl
                                                  refine one_ (i := 16) (N := some 71) #[true, true, true, true, true, true, true, true, true, true, true, true, true, true, true, true, true, false, true, true, false, false, true, false, false] rfl rfl (one_of HT_.out (by kernel_rfl)) (by decide) (fun K hK => ?_)
                                                  refine goes_ Tryd.func40 (by kernel_rfl) rfl #[.int .i64 0] (by rfl) rfl rfl (by (try simp only [List.map_toArray, List.map_cons, List.map_nil]); first | done | rfl | (simp only [List.length_drop, List.length_take]; rfl)) ?_
                                                  with_reducible refine (impl_p32.calls 0 t111 _ A45.out).mono ?_
                                                  rintro e w60 ⟨rfl, hb⟩
                                                  refine ⟨_, rfl, ?_⟩
                                                  have n0_ := Aside0.mk (blk_below (g := gb101) (o := .cells #[.string a1_0, .string a1_1] 35 (0, 0)) (by (with_reducible repeat (first | refine blk_drewN ?_ _ | refine blk_drew ?_ | refine blk_alloc ?_ _)); exact BK101.out) hb)
                                                  have n1_ := Aside0.mk (below_step (by repeat (first | (with_reducible first | exact HB.out | apply below_alloc | apply pw_below_drewN | apply below_drew1 | refine below_set ?_ GE101.out) | exact HB.out)) hb)
                                                  clear BK101
                                                  clear HB
                                                  have BK101 := n0_
                                                  have HB := n1_
                                                  clear n0_ n1_
                                                  (try clear hb)
                                                  (try clear hb2)
                                                  (try clear hk)
                                                  (try clear hi)
                                                  refine hK.out _ _ ⟨(blk_cell BK101.out 0).trans rfl, (blk_cell BK101.out 1).trans rfl⟩ (fun hHeld => ?_)
                                                  clear hK K
                                                  refine norm_ (a' := ?_) ?_ ?_
                                                  rotate_left
                                                  · show Act.put _ (some 71) _ = _
                                                    simp only [Act.put, List.setIfInBounds_toArray, List.set_cons_zero, List.set_cons_succ, i64_w, i32_w]
                                                    rfl
                                                  refine pure_ (i := 17) (N := some 72) (v := ?_) (a' := ?_) #[true, true, true, true, true, true, true, true, true, true, true, true, true, true, true, true, true, true, true, true, false, false, true, false, false] rfl rfl (any_of HT_.out (by kernel_rfl)) (fun _ _ _ h => h) (Or.inl ⟨by rfl, ?_⟩) ?_ ?_
                                                  rotate_left
                                                  · intro w'
                                                    go_simp
                                                    with_reducible rfl
                                                  rotate_left
                                                  · simp only [Act.put, List.setIfInBounds_toArray, List.set_cons_zero, List.set_cons_succ, i64_w, i32_w]
                                                    rfl
                                                  refine one_ (i := 20) (N := some 75) #[true, true, true, true, true, true, true, true, true, true, true, true, true, true, true, true, true, true, true, true, true, false, true, false, false] rfl rfl (one_of HT_.out (by kernel_rfl)) (by decide) (fun K hK => ?_)
                                                  refine goes_ Tryd.func39 (by kernel_rfl) rfl #[.int .i64 ((((((((⟨#[11, 104, 109, 97, 99, 45, 115, 104, 97, 50, 53, 54, 0]⟩ : ByteArray) ++ t105) ++ (⟨#[1, 44]⟩ : ByteArray)) ++ (⟨#[0, 32]⟩ : ByteArray)) ++ t107) ++ ((strOfNums l0).extract 0 2)) ++ (⟨#[0, 0, 0, 0]⟩ : ByteArray)).size : Int)] (by rfl) rfl rfl (by (try simp only [List.map_toArray, List.map_cons, List.map_nil]); first | done | (refine congrArg (fun z_ => #[Value.int .i64 z_]) (?_ : _ = ((((((((⟨#[11, 104, 109, 97, 99, 45, 115, 104, 97, 50, 53, 54, 0]⟩ : ByteArray) ++ t105) ++ (⟨#[1, 44]⟩ : ByteArray)) ++ (⟨#[0, 32]⟩ : ByteArray)) ++ t107) ++ ((strOfNums l0).extract 0 2)) ++ (⟨#[0, 0, 0, 0]⟩ : ByteArray)).size : Int)); simp [ByteArray.size_append, ByteArray.size_extract, (show (⟨#[0, 0, 0, 0]⟩ : ByteArray).size = 4 from rfl), (show (⟨#[0, 32]⟩ : ByteArray).size = 2 from rfl), (show (⟨#[1, 44]⟩ : ByteArray).size = 2 from rfl), (show (⟨#[11, 104, 109, 97, 99, 45, 115, 104, 97, 50, 53, 54, 0]⟩ : ByteArray).size = 13 from rfl)]; done) | rfl | (simp only [List.length_drop, List.length_take]; rfl)) ?_
                                                  with_reducible refine (impl_p16.calls ((((((((⟨#[11, 104, 109, 97, 99, 45, 115, 104, 97, 50, 53, 54, 0]⟩ : ByteArray) ++ t105) ++ (⟨#[1, 44]⟩ : ByteArray)) ++ (⟨#[0, 32]⟩ : ByteArray)) ++ t107) ++ ((strOfNums l0).extract 0 2)) ++ (⟨#[0, 0, 0, 0]⟩ : ByteArray)).size : Int) t112 _ A47.out).mono ?_
                                                  rintro e w61 ⟨rfl, hb⟩
                                                  refine ⟨_, rfl, ?_⟩
                                                  have n0_ := Aside0.mk (blk_below (g := gb101) (o := .cells #[.string a1_0, .string a1_1] 35 (0, 0)) (by (with_reducible repeat (first | refine blk_drewN ?_ _ | refine blk_drew ?_ | refine blk_alloc ?_ _)); exact BK101.out) hb)
                                                  have n1_ := Aside0.mk (below_step (by repeat (first | (with_reducible first | exact HB.out | apply below_alloc | apply pw_below_drewN | apply below_drew1 | refine below_set ?_ GE101.out) | exact HB.out)) hb)
                                                  clear BK101
                                                  clear HB
                                                  have BK101 := n0_
                                                  have HB := n1_
                                                  clear n0_ n1_
                                                  (try clear hb)
                                                  (try clear hb2)
                                                  (try clear hk)
                                                  (try clear hi)
                                                  refine hK.out _ _ ⟨(blk_cell BK101.out 0).trans rfl, (blk_cell BK101.out 1).trans rfl⟩ (fun hHeld => ?_)
                                                  clear hK K
                                                  refine norm_ (a' := ?_) ?_ ?_
                                                  rotate_left
                                                  · show Act.put _ (some 75) _ = _
                                                    simp only [Act.put, List.setIfInBounds_toArray, List.set_cons_zero, List.set_cons_succ, i64_w, i32_w]
                                                    rfl
                                                  refine pure_ (i := 21) (N := some 76) (v := ?_) (a' := ?_) #[true, true, true, true, true, true, true, true, true, true, true, true, true, true, true, true, true, true, true, true, true, true, true, false, false] rfl rfl (any_of HT_.out (by kernel_rfl)) (fun _ _ _ h => h) (Or.inl ⟨by rfl, ?_⟩) ?_ ?_
                                                  rotate_left
                                                  · intro w'
                                                    go_simp
                                                    with_reducible rfl
                                                  rotate_left
                                                  · simp only [Act.put, List.setIfInBounds_toArray, List.set_cons_zero, List.set_cons_succ, i64_w, i32_w]
                                                    rfl
                                                  refine pure_ (i := 23) (N := some 78) (v := ?_) (a' := ?_) #[true, true, true, true, true, true, true, true, true, true, true, true, true, true, true, true, true, true, true, true, true, true, true, true, false] rfl rfl (any_of HT_.out (by kernel_rfl)) (fun _ _ _ h => h) (Or.inl ⟨by rfl, ?_⟩) ?_ ?_
                                                  rotate_left
                                                  · intro w'
                                                    go_simp
                                                    with_reducible rfl
                                                  rotate_left
                                                  · simp only [Act.put, List.setIfInBounds_toArray, List.set_cons_zero, List.set_cons_succ, i64_w, i32_w]
                                                    rfl
                                                  refine pure_ (i := 24) (N := some 13) (v := ?_) (a' := ?_) #[true, true, true, true, true, true, true, true, true, true, true, true, true, true, true, true, true, true, true, true, true, true, true, true, true] rfl rfl (any_of HT_.out (by kernel_rfl)) (fun _ _ _ h => h) (Or.inl ⟨by rfl, ?_⟩) ?_ ?_
                                                  rotate_left
                                                  · intro w'
                                                    go_simp
                                                    with_reducible rfl
                                                  rotate_left
                                                  · simp only [Act.put, List.setIfInBounds_toArray, List.set_cons_zero, List.set_cons_succ, i64_w, i32_w]
                                                    rfl
                                                  refine done_ (done_of HT_.out (by kernel_rfl)) ?_
                                                  try go_wp2
                                                  go_ret2
                                                  exact ⟨_, by first | rfl | (simp [errW_none, errW_some] <;> rfl) | (simp [*, errW_none, errW_some] <;> rfl), by first | exact KB.R_nil _ _ _ _ _ | exact Kd.N_nil _ _ _ _ _ | exact Kd.V_nil _ _ _ _ _ | exact Kd.Q_nil _ _ _ _ _ | exact Kd.S_nil _ _ _ _ _, by repeat (first | (with_reducible first | exact HB.out | apply below_alloc | apply pw_below_drewN | apply below_drew1 | refine below_set ?_ GE101.out) | exact HB.out)⟩
                                                · rw [if_neg c50] at H
                                                  have c50b0 : decide (65535 < (((((((((((strOfNums l0).extract 0 10) ++ t108) ++ ((strOfNums l0).extract 12 (strOfNums l0).size)) ++ a1_0) ++ t109) ++ t110) ++ t111) ++ t112) ++ (((((((⟨#[11, 104, 109, 97, 99, 45, 115, 104, 97, 50, 53, 54, 0]⟩ : ByteArray) ++ t105) ++ (⟨#[1, 44]⟩ : ByteArray)) ++ (⟨#[0, 32]⟩ : ByteArray)) ++ t107) ++ ((strOfNums l0).extract 0 2)) ++ (⟨#[0, 0, 0, 0]⟩ : ByteArray))).size : Int)) = false := decide_eq_false c50
                                                  try have c50b2 : (65535 < ((((((((((min 10 (strOfNums l0).size : Nat) : Int) + (t108.size : Int)) + (((strOfNums l0).size - 12 : Nat) : Int)) + (a1_0.size : Int)) + (t109.size : Int)) + (t110.size : Int)) + (t111.size : Int)) + (t112.size : Int)) + ((((((13 + (t105.size : Int)) + 2) + 2) + (t107.size : Int)) + ((min 2 (strOfNums l0).size : Nat) : Int)) + 4))) = False := eq_false (by have h := of_decide_eq_false c50b0; simp only [ByteArray.size_append, ByteArray.size_extract, Nat.min_self, Nat.sub_zero, Int.natCast_add, (show (⟨#[0, 0, 0, 0]⟩ : ByteArray).size = 4 from rfl), (show (⟨#[0, 32]⟩ : ByteArray).size = 2 from rfl), (show (⟨#[1, 44]⟩ : ByteArray).size = 2 from rfl), (show (⟨#[11, 104, 109, 97, 99, 45, 115, 104, 97, 50, 53, 54, 0]⟩ : ByteArray).size = 13 from rfl)] at h; first | with_reducible exact h | omega)
                                                  try have c50b3 : decide (65535 < ((((((((((min 10 (strOfNums l0).size : Nat) : Int) + (t108.size : Int)) + (((strOfNums l0).size - 12 : Nat) : Int)) + (a1_0.size : Int)) + (t109.size : Int)) + (t110.size : Int)) + (t111.size : Int)) + (t112.size : Int)) + ((((((13 + (t105.size : Int)) + 2) + 2) + (t107.size : Int)) + ((min 2 (strOfNums l0).size : Nat) : Int)) + 4))) = false := decide_eq_false (by have h := c50b2; first | exact of_eq_true h | (rw [h]; exact not_false))
                                                  have c50b1 : decide (65535 < ((((((((((strOfNums l0).extract 0 10) ++ t108) ++ ((strOfNums l0).extract 12 (strOfNums l0).size)) ++ a1_0) ++ t109) ++ t110) ++ t111) ++ t112) ++ (((((((⟨#[11, 104, 109, 97, 99, 45, 115, 104, 97, 50, 53, 54, 0]⟩ : ByteArray) ++ t105) ++ (⟨#[1, 44]⟩ : ByteArray)) ++ (⟨#[0, 32]⟩ : ByteArray)) ++ t107) ++ ((strOfNums l0).extract 0 2)) ++ (⟨#[0, 0, 0, 0]⟩ : ByteArray))).size) = false := decide_eq_false (by omega)
                                                  clear c50
                                                  replace H := Option.bind_eq_some_iff.mp H
                                                  obtain ⟨t113, A620, H⟩ := H
                                                  replace H : (some (t113, 0)) = some (r1, r2) := H
                                                  have A62 := Aside0.mk A620
                                                  clear A620
                                                  simp only [Option.some.injEq, Prod.mk.injEq] at H
                                                  obtain ⟨rfl, rfl⟩ := H
                                                  have hcv63 := Kd.C_string (P := Tryd.prog) (A := A0) (c := c0) Tryd.underlying22 Tryd.underlying5 Tryd.underlying9 (Kd.C_below HR0.out HB.out)
                                                  try go_wp2_with (first | ((with_reducible refine gate_callee (f := 36) rfl ?_); refine goesL_ (some 36) rfl rfl Tryd.func36 (by kernel_rfl) rfl #[.string ((strOfNums l0).extract 10 (strOfNums l0).size)] rfl (by (try simp only [List.map_toArray, List.map_cons, List.map_nil]); first | done | rfl | (simp only [List.length_drop, List.length_take]; rfl)) ?_; (with_reducible refine (impl_u16.calls ((strOfNums l0).extract 10 (strOfNums l0).size) t104 _ A20.out).mono ?_); rintro e w' ⟨rfl, ⟨nd, rfl⟩⟩; refine ⟨_, rfl, ?_⟩))
                                                  (try (rw [drewN_self wc]; generalize hq_ : World.drewN wc _ = wc; have n0_ : Aside0 (wc.heap[gb101]? = some (.cells #[.string a1_0, .string a1_1] 35 (0, 0))) := ⟨by rw [← hq_]; exact (by (with_reducible repeat (first | refine blk_drewN ?_ _ | refine blk_drew ?_ | refine blk_alloc ?_ _)); exact BK101.out)⟩; have n1_ : Aside0 (Below w.heap.size w wc) := ⟨by rw [← hq_]; exact (by repeat (first | (with_reducible first | exact HB.out | apply below_alloc | apply pw_below_drewN | apply below_drew1 | refine below_set ?_ GE101.out) | exact HB.out))⟩; clear BK101 HB hq_; have BK101 := n0_; have HB := n1_; clear n0_ n1_))
                                                  have n0_ := Aside0.mk (blk_drew BK101.out)
                                                  have n1_ := Aside0.mk (below_drew1 HB.out)
                                                  clear BK101
                                                  clear HB
                                                  have BK101 := n0_
                                                  have HB := n1_
                                                  clear n0_ n1_
                                                  refine start_ (n := 17) (S := fun w' => w'.cell? ⟨gb101, 0, none⟩ = some (.string a1_0) ∧ w'.cell? ⟨gb101, 1, none⟩ = some (.string a1_1)) (ds := []) #[false, false, false, false, false, false, false, false, false, false, false, false, false, false, false, false, false] (by kernel_rfl) rfl rfl ⟨(blk_cell BK101.out 0).trans rfl, (blk_cell BK101.out 1).trans rfl⟩ (fun hHeld => ?_); refine with_tabW impl_Sign.tab7 impl_Sign.bits7 (fun HT_ HW_ => ?_)
                                                  generalize wc.drew = w64 at BK101 HB hHeld ⊢
                                                  refine pure_ (i := 0) (N := some 39) (v := ?_) (a' := ?_) #[true, false, false, false, false, false, false, false, false, false, false, false, false, false, false, false, false] rfl rfl (any_of HT_.out (by kernel_rfl)) (fun _ _ _ h => h) (Or.inl ⟨by rfl, ?_⟩) ?_ ?_
                                                  rotate_left
                                                  · intro w'
                                                    go_simp
                                                    with_reducible rfl
                                                  rotate_left
                                                  · simp only [Act.put, List.setIfInBounds_toArray, List.set_cons_zero, List.set_cons_succ, i64_w, i32_w]
                                                    rfl
                                                  refine pure_ (i := 6) (N := some 45) (v := ?_) (a' := ?_) #[true, false, false, false, false, false, true, false, false, false, false, false, false, false, false, false, false] rfl rfl (any_of HT_.out (by kernel_rfl)) (fun _ _ _ h => h) (Or.inl ⟨by rfl, ?_⟩) ?_ ?_
                                                  rotate_left
                                                  · intro w'
                                                    go_simp
                                                    with_reducible rfl
                                                  rotate_left
                                                  · simp only [Act.put, List.setIfInBounds_toArray, List.set_cons_zero, List.set_cons_succ, i64_w, i32_w]
                                                    rfl
                                                  refine pure_ (i := 7) (N := some 46) (v := ?_) (a' := ?_) #[true, false, false, false, false, false, true, true, false, false, false, false, false, false, false, false, false] rfl rfl (any_of HT_.out (by kernel_rfl)) (fun _ _ _ h => h) (Or.inl ⟨by rfl, ?_⟩) ?_ ?_
                                                  rotate_left
                                                  · intro w'
                                                    go_simp
                                                    with_reducible rfl
                                                  rotate_left
                                                  · simp only [Act.put, List.setIfInBounds_toArray, List.set_cons_zero, List.set_cons_succ, i64_w, i32_w]
                                                    rfl
                                                  refine pure_ (i := 8) (N := some 47) (v := ?_) (a' := ?_) #[true, false, false, false, false, false, true, true, true, false, false, false, false, false, false, false, false] rfl rfl (any_of HT_.out (by kernel_rfl)) (fun _ _ _ h => h) (Or.inl ⟨by rfl, ?_⟩) ?_ ?_
                                                  rotate_left
                                                  · intro w'
                                                    go_simp
                                                    with_reducible rfl
                                                  rotate_left
                                                  · simp only [Act.put, List.setIfInBounds_toArray, List.set_cons_zero, List.set_cons_succ, i64_w, i32_w]
                                                    rfl
                                                  refine pure_ (i := 12) (N := some 51) (v := ?_) (a' := ?_) #[true, false, false, false, false, false, true, true, true, false, false, false, true, false, false, false, false] rfl rfl (any_of HT_.out (by kernel_rfl)) (fun _ _ _ h => h) (Or.inl ⟨by rfl, ?_⟩) ?_ ?_
                                                  rotate_left
                                                  · intro w'
                                                    go_simp
                                                    with_reducible rfl
                                                  rotate_left
                                                  · simp only [Act.put, List.setIfInBounds_toArray, List.set_cons_zero, List.set_cons_succ, i64_w, i32_w]
                                                    rfl
                                                  refine pure_ (i := 13) (N := some 52) (v := ?_) (a' := ?_) #[true, false, false, false, false, false, true, true, true, false, false, false, true, true, false, false, false] rfl rfl (any_of HT_.out (by kernel_rfl)) (fun _ _ _ h => h) (Or.inl ⟨by rfl, ?_⟩) ?_ ?_
                                                  rotate_left
                                                  · intro w'
                                                    go_simp
                                                    with_reducible rfl
                                                  rotate_left
                                                  · simp only [Act.put, List.setIfInBounds_toArray, List.set_cons_zero, List.set_cons_succ, i64_w, i32_w]
                                                    rfl
                                                  refine take_ (i := 5) (N := some 44) (v := ?_) (a' := ?_) #[true, false, false, false, false, true, true, true, true, false, false, false, true, true, false, false, false] rfl rfl (take_ofW HT_.out HW_.out (by kernel_rfl)) (fun _ _ _ h => h) (Or.inl ⟨by rfl, ?_⟩) hHeld ?_ ?_
                                                  rotate_left
                                                  · rintro w' ⟨s0, s1⟩
                                                    go_simp
                                                    with_reducible rfl
                                                  rotate_left
                                                  · simp only [Act.put, List.setIfInBounds_toArray, List.set_cons_zero, List.set_cons_succ, i64_w, i32_w]
                                                    rfl
                                                  refine one_ (i := 1) (N := some 40) #[true, true, false, false, false, true, true, true, true, false, false, false, true, true, false, false, false] rfl rfl (one_of HT_.out (by kernel_rfl)) (by decide) (fun K hK => ?_)
                                                  refine goes_ Tryd.func37 (by kernel_rfl) rfl #[.int .i64 a2] (by rfl) rfl rfl (by (try simp only [List.map_toArray, List.map_cons, List.map_nil]); first | done | rfl | (simp only [List.length_drop, List.length_take]; rfl)) ?_
                                                  with_reducible refine (impl_p48.calls a2 t105 _ A23.out).mono ?_
                                                  rintro e w65 ⟨rfl, hb⟩
                                                  refine ⟨_, rfl, ?_⟩
                                                  have n0_ := Aside0.mk (blk_below (g := gb101) (o := .cells #[.string a1_0, .string a1_1] 35 (0, 0)) (by (with_reducible repeat (first | refine blk_drewN ?_ _ | refine blk_drew ?_ | refine blk_alloc ?_ _)); exact BK101.out) hb)
                                                  have n1_ := Aside0.mk (below_step (by repeat (first | (with_reducible first | exact HB.out | apply below_alloc | apply pw_below_drewN | apply below_drew1 | refine below_set ?_ GE101.out) | exact HB.out)) hb)
                                                  clear BK101
                                                  clear HB
                                                  have BK101 := n0_
                                                  have HB := n1_
                                                  clear n0_ n1_
                                                  (try clear hb)
                                                  (try clear hb2)
                                                  (try clear hk)
                                                  (try clear hi)
                                                  refine hK.out _ _ ⟨(blk_cell BK101.out 0).trans rfl, (blk_cell BK101.out 1).trans rfl⟩ (fun hHeld => ?_)
                                                  clear hK K
                                                  refine norm_ (a' := ?_) ?_ ?_
                                                  rotate_left
                                                  · show Act.put _ (some 40) _ = _
                                                    simp only [Act.put, List.setIfInBounds_toArray, List.set_cons_zero, List.set_cons_succ, i64_w, i32_w]
                                                    rfl
                                                  refine pure_ (i := 2) (N := some 41) (v := ?_) (a' := ?_) #[true, true, true, false, false, true, true, true, true, false, false, false, true, true, false, false, false] rfl rfl (any_of HT_.out (by kernel_rfl)) (fun _ _ _ h => h) (Or.inl ⟨by rfl, ?_⟩) ?_ ?_
                                                  rotate_left
                                                  · intro w'
                                                    go_simp
                                                    with_reducible rfl
                                                  rotate_left
                                                  · simp only [Act.put, List.setIfInBounds_toArray, List.set_cons_zero, List.set_cons_succ, i64_w, i32_w]
                                                    rfl
                                                  refine pure_ (i := 3) (N := some 42) (v := ?_) (a' := ?_) #[true, true, true, true, false, true, true, true, true, false, false, false, true, true, false, false, false] rfl rfl (any_of HT_.out (by kernel_rfl)) (fun _ _ _ h => h) (Or.inl ⟨by rfl, ?_⟩) ?_ ?_
                                                  rotate_left
                                                  · intro w'
                                                    go_simp
                                                    with_reducible rfl
                                                  rotate_left
                                                  · simp only [Act.put, List.setIfInBounds_toArray, List.set_cons_zero, List.set_cons_succ, i64_w, i32_w]
                                                    rfl
                                                  refine pure_ (i := 4) (N := some 43) (v := ?_) (a' := ?_) #[true, true, true, true, true, true, true, true, true, false, false, false, true, true, false, false, false] rfl rfl (any_of HT_.out (by kernel_rfl)) (fun _ _ _ h => h) (Or.inl ⟨by rfl, ?_⟩) ?_ ?_
                                                  rotate_left
                                                  · intro w'
                                                    go_simp
                                                    with_reducible rfl
                                                  rotate_left
                                                  · simp only [Act.put, List.setIfInBounds_toArray, List.set_cons_zero, List.set_cons_succ, i64_w, i32_w]
                                                    rfl
                                                  refine one_ (i := 9) (N := some 48) #[true, true, true, true, true, true, true, true, true, true, false, false, true, true, false, false, false] rfl rfl (one_of HT_.out (by kernel_rfl)) (by decide) (fun K hK => ?_)
                                                  refine goes_ Tryd.func37 (by kernel_rfl) rfl #[.int .i64 a2] (by rfl) rfl rfl (by (try simp only [List.map_toArray, List.map_cons, List.map_nil]); first | done | rfl | (simp only [List.length_drop, List.length_take]; rfl)) ?_
                                                  with_reducible refine (impl_p48.calls a2 t106 _ A27.out).mono ?_
                                                  rintro e w66 ⟨rfl, hb⟩
                                                  refine ⟨_, rfl, ?_⟩
                                                  have n0_ := Aside0.mk (blk_below (g := gb101) (o := .cells #[.string a1_0, .string a1_1] 35 (0, 0)) (by (with_reducible repeat (first | refine blk_drewN ?_ _ | refine blk_drew ?_ | refine blk_alloc ?_ _)); exact BK101.out) hb)
                                                  have n1_ := Aside0.mk (below_step (by repeat (first | (with_reducible first | exact HB.out | apply below_alloc | apply pw_below_drewN | apply below_drew1 | refine below_set ?_ GE101.out) | exact HB.out)) hb)
                                                  clear BK101
                                                  clear HB
                                                  have BK101 := n0_
                                                  have HB := n1_
                                                  clear n0_ n1_
                                                  (try clear hb)
                                                  (try clear hb2)
                                                  (try clear hk)
                                                  (try clear hi)
                                                  refine hK.out _ _ ⟨(blk_cell BK101.out 0).trans rfl, (blk_cell BK101.out 1).trans rfl⟩ (fun hHeld => ?_)
                                                  clear hK K
                                                  refine norm_ (a' := ?_) ?_ ?_
                                                  rotate_left
                                                  · show Act.put _ (some 48) _ = _
                                                    simp only [Act.put, List.setIfInBounds_toArray, List.set_cons_zero, List.set_cons_succ, i64_w, i32_w]
                                                    rfl
                                                  refine one_ (i := 10) (N := some 49) #[true, true, true, true, true, true, true, true, true, true, true, false, true, true, false, false, false] rfl rfl (one_of HT_.out (by kernel_rfl)) (by decide) (fun K hK => ?_)
                                                  refine goes_ Tryd.func38 (by kernel_rfl) rfl #[.agg #[.string a1_0, .string a1_1], .string (strOfNums l0), .string a3, .string t106, .string (⟨#[1, 44]⟩ : ByteArray)] (by rfl) rfl rfl (by (try simp only [List.map_toArray, List.map_cons, List.map_nil]); first | done | rfl | (simp only [List.length_drop, List.length_take]; rfl)) ?_
                                                  with_reducible refine (impl_sumOf.calls a1_0 a1_1 (strOfNums l0) a3 t106 (⟨#[1, 44]⟩ : ByteArray) t107 _ A28.out (HGK.out.below (by repeat (first | (with_reducible first | exact HB.out | apply below_alloc | apply pw_below_drewN | apply below_drew1) | exact HB.out)))).mono ?_
                                                  rintro e w67 ⟨rfl, hb⟩
                                                  refine ⟨_, rfl, ?_⟩
                                                  have n0_ := Aside0.mk (blk_below (g := gb101) (o := .cells #[.string a1_0, .string a1_1] 35 (0, 0)) (by (with_reducible repeat (first | refine blk_drewN ?_ _ | refine blk_drew ?_ | refine blk_alloc ?_ _)); exact BK101.out) hb)
                                                  have n1_ := Aside0.mk (below_step (by repeat (first | (with_reducible first | exact HB.out | apply below_alloc | apply pw_below_drewN | apply below_drew1 | refine below_set ?_ GE101.out) | exact HB.out)) hb)
                                                  clear BK101
                                                  clear HB
                                                  have BK101 := n0_
                                                  have HB := n1_
                                                  clear n0_ n1_
                                                  (try clear hb)
                                                  (try clear hb2)
                                                  (try clear hk)
                                                  (try clear hi)
                                                  refine hK.out _ _ ⟨(blk_cell BK101.out 0).trans rfl, (blk_cell BK101.out 1).trans rfl⟩ (fun hHeld => ?_)
                                                  clear hK K
                                                  refine norm_ (a' := ?_) ?_ ?_
                                                  rotate_left
                                                  · show Act.put _ (some 49) _ = _
                                                    simp only [Act.put, List.setIfInBounds_toArray, List.set_cons_zero, List.set_cons_succ, i64_w, i32_w]
                                                    rfl
                                                  refine pure_ (i := 11) (N := some 50) (v := ?_) (a' := ?_) #[true, true, true, true, true, true, true, true, true, true, true, true, true, true, false, false, false] rfl rfl (any_of HT_.out (by kernel_rfl)) (fun _ _ _ h => h) (Or.inl ⟨by rfl, ?_⟩) ?_ ?_
                                                  rotate_left
                                                  · intro w'
                                                    go_simp
                                                    with_reducible rfl
                                                  rotate_left
                                                  · simp only [Act.put, List.setIfInBounds_toArray, List.set_cons_zero, List.set_cons_succ, i64_w, i32_w]
                                                    rfl
                                                  refine pure_ (i := 14) (N := some 53) (v := ?_) (a' := ?_) #[true, true, true, true, true, true, true, true, true, true, true, true, true, true, true, false, false] rfl rfl (any_of HT_.out (by kernel_rfl)) (fun _ _ _ h => h) (Or.inl ⟨by rfl, ?_⟩) ?_ ?_
                                                  rotate_left
                                                  · intro w'
                                                    go_simp
                                                    with_reducible rfl
                                                  rotate_left
                                                  · simp only [Act.put, List.setIfInBounds_toArray, List.set_cons_zero, List.set_cons_succ, i64_w, i32_w]
                                                    rfl
                                                  refine pure_ (i := 15) (N := some 54) (v := ?_) (a' := ?_) #[true, true, true, true, true, true, true, true, true, true, true, true, true, true, true, true, false] rfl rfl (any_of HT_.out (by kernel_rfl)) (fun _ _ _ h => h) (Or.inl ⟨by rfl, ?_⟩) ?_ ?_
                                                  rotate_left
                                                  · intro w'
                                                    go_simp
                                                    with_reducible rfl
                                                  rotate_left
                                                  · simp only [Act.put, List.setIfInBounds_toArray, List.set_cons_zero, List.set_cons_succ, i64_w, i32_w]
                                                    rfl
                                                  refine pure_ (i := 16) (N := some 12) (v := ?_) (a' := ?_) #[true, true, true, true, true, true, true, true, true, true, true, true, true, true, true, true, true] rfl rfl (any_of HT_.out (by kernel_rfl)) (fun _ _ _ h => h) (Or.inl ⟨by rfl, ?_⟩) ?_ ?_
                                                  rotate_left
                                                  · intro w'
                                                    go_simp
                                                    with_reducible rfl
                                                  rotate_left
                                                  · simp only [Act.put, List.setIfInBounds_toArray, List.set_cons_zero, List.set_cons_succ, i64_w, i32_w]
                                                    rfl
                                                  refine done_ (done_of HT_.out (by kernel_rfl)) ?_
                                                  try go_wp2
                                                  have n0_ := Aside0.mk (blk_drew BK101.out)
                                                  have n1_ := Aside0.mk (below_drew1 HB.out)
                                                  clear BK101
                                                  clear HB
                                                  have BK101 := n0_
                                                  have HB := n1_
                                                  clear n0_ n1_
                                                  refine start_ (n := 25) (S := fun w' => w'.cell? ⟨gb101, 0, none⟩ = some (.string a1_0) ∧ w'.cell? ⟨gb101, 1, none⟩ = some (.string a1_1)) (ds := []) #[false, false, false, false, false, false, false, false, false, false, false, false, false, false, false, false, false, false, false, false, false, false, false, false, false] (by kernel_rfl) rfl rfl ⟨(blk_cell BK101.out 0).trans rfl, (blk_cell BK101.out 1).trans rfl⟩ (fun hHeld => ?_); refine with_tabW impl_Sign.tab8 impl_Sign.bits8 (fun HT_ HW_ => ?_)
                                                  generalize w67.drew = w68 at BK101 HB hHeld ⊢
                                                  refine pure_ (i := 0) (N := some 55) (v := ?_) (a' := ?_) #[true, false, false, false, false, false, false, false, false, false, false, false, false, false, false, false, false, false, false, false, false, false, false, false, false] rfl rfl (any_of HT_.out (by kernel_rfl)) (fun _ _ _ h => h) (Or.inl ⟨by rfl, ?_⟩) ?_ ?_
                                                  rotate_left
                                                  · intro w'
                                                    go_simp
                                                    with_reducible rfl
                                                  rotate_left
                                                  · simp only [Act.put, List.setIfInBounds_toArray, List.set_cons_zero, List.set_cons_succ, i64_w, i32_w]
                                                    rfl
                                                  refine pure_ (i := 1) (N := some 56) (v := ?_) (a' := ?_) #[true, true, false, false, false, false, false, false, false, false, false, false, false, false, false, false, false, false, false, false, false, false, false, false, false] rfl rfl (any_of HT_.out (by kernel_rfl)) (fun _ _ _ h => h) (Or.inl ⟨by rfl, ?_⟩) ?_ ?_
                                                  rotate_left
                                                  · intro w'
                                                    go_simp
                                                    with_reducible rfl
                                                  rotate_left
                                                  · simp only [Act.put, List.setIfInBounds_toArray, List.set_cons_zero, List.set_cons_succ, i64_w, i32_w]
                                                    rfl
                                                  refine pure_ (i := 2) (N := some 57) (v := ?_) (a' := ?_) #[true, true, true, false, false, false, false, false, false, false, false, false, false, false, false, false, false, false, false, false, false, false, false, false, false] rfl rfl (any_of HT_.out (by kernel_rfl)) (fun _ _ _ h => h) (Or.inl ⟨by rfl, ?_⟩) ?_ ?_
                                                  rotate_left
                                                  · intro w'
                                                    go_simp
                                                    with_reducible rfl
                                                  rotate_left
                                                  · simp only [Act.put, List.setIfInBounds_toArray, List.set_cons_zero, List.set_cons_succ, i64_w, i32_w]
                                                    rfl
                                                  refine pure_ (i := 3) (N := some 58) (v := ?_) (a' := ?_) #[true, true, true, true, false, false, false, false, false, false, false, false, false, false, false, false, false, false, false, false, false, false, false, false, false] rfl rfl (any_of HT_.out (by kernel_rfl)) (fun _ _ _ h => h) (Or.inl ⟨by rfl, ?_⟩) ?_ ?_
                                                  rotate_left
                                                  · intro w'
                                                    go_simp
                                                    with_reducible rfl
                                                  rotate_left
                                                  · simp only [Act.put, List.setIfInBounds_toArray, List.set_cons_zero, List.set_cons_succ, i64_w, i32_w]
                                                    rfl
                                                  refine pure_ (i := 6) (N := some 61) (v := ?_) (a' := ?_) #[true, true, true, true, false, false, true, false, false, false, false, false, false, false, false, false, false, false, false, false, false, false, false, false, false] rfl rfl (any_of HT_.out (by kernel_rfl)) (fun _ _ _ h => h) (Or.inl ⟨by rfl, ?_⟩) ?_ ?_
                                                  rotate_left
                                                  · intro w'
                                                    go_simp
                                                    with_reducible rfl
                                                  rotate_left
                                                  · simp only [Act.put, List.setIfInBounds_toArray, List.set_cons_zero, List.set_cons_succ, i64_w, i32_w]
                                                    rfl
                                                  refine pure_ (i := 7) (N := some 62) (v := ?_) (a' := ?_) #[true, true, true, true, false, false, true, true, false, false, false, false, false, false, false, false, false, false, false, false, false, false, false, false, false] rfl rfl (any_of HT_.out (by kernel_rfl)) (fun _ _ _ h => h) (Or.inl ⟨by rfl, ?_⟩) ?_ ?_
                                                  rotate_left
                                                  · intro w'
                                                    go_simp
                                                    with_reducible rfl
                                                  rotate_left
                                                  · simp only [Act.put, List.setIfInBounds_toArray, List.set_cons_zero, List.set_cons_succ, i64_w, i32_w]
                                                    rfl
                                                  refine pure_ (i := 9) (N := some 64) (v := ?_) (a' := ?_) #[true, true, true, true, false, false, true, true, false, true, false, false, false, false, false, false, false, false, false, false, false, false, false, false, false] rfl rfl (any_of HT_.out (by kernel_rfl)) (fun _ _ _ h => h) (Or.inl ⟨by rfl, ?_⟩) ?_ ?_
                                                  rotate_left
                                                  · intro w'
                                                    go_simp
                                                    with_reducible rfl
                                                  rotate_left
                                                  · simp only [Act.put, List.setIfInBounds_toArray, List.set_cons_zero, List.set_cons_succ, i64_w, i32_w]
                                                    rfl
                                                  refine pure_ (i := 18) (N := some 73) (v := ?_) (a' := ?_) #[true, true, true, true, false, false, true, true, false, true, false, false, false, false, false, false, false, false, true, false, false, false, false, false, false] rfl rfl (any_of HT_.out (by kernel_rfl)) (fun _ _ _ h => h) (Or.inl ⟨by rfl, ?_⟩) ?_ ?_
                                                  rotate_left
                                                  · intro w'
                                                    go_simp
                                                    with_reducible rfl
                                                  rotate_left
                                                  · simp only [Act.put, List.setIfInBounds_toArray, List.set_cons_zero, List.set_cons_succ, i64_w, i32_w]
                                                    rfl
                                                  refine pure_ (i := 19) (N := some 74) (v := ?_) (a' := ?_) #[true, true, true, true, false, false, true, true, false, true, false, false, false, false, false, false, false, false, true, true, false, false, false, false, false] rfl rfl (any_of HT_.out (by kernel_rfl)) (fun _ _ _ h => h) (Or.inl ⟨by rfl, ?_⟩) ?_ ?_
                                                  rotate_left
                                                  · intro w'
                                                    go_simp
                                                    with_reducible rfl
                                                  rotate_left
                                                  · simp only [Act.put, List.setIfInBounds_toArray, List.set_cons_zero, List.set_cons_succ, i64_w, i32_w]
                                                    rfl
                                                  refine pure_ (i := 22) (N := some 77) (v := ?_) (a' := ?_) #[true, true, true, true, false, false, true, true, false, true, false, false, false, false, false, false, false, false, true, true, false, false, true, false, false] rfl rfl (any_of HT_.out (by kernel_rfl)) (fun _ _ _ h => h) (Or.inl ⟨by rfl, ?_⟩) ?_ ?_
                                                  rotate_left
                                                  · intro w'
                                                    go_simp
                                                    with_reducible rfl
                                                  rotate_left
                                                  · simp only [Act.put, List.setIfInBounds_toArray, List.set_cons_zero, List.set_cons_succ, i64_w, i32_w]
                                                    rfl
                                                  refine take_ (i := 10) (N := some 65) (v := ?_) (a' := ?_) #[true, true, true, true, false, false, true, true, false, true, true, false, false, false, false, false, false, false, true, true, false, false, true, false, false] rfl rfl (take_ofW HT_.out HW_.out (by kernel_rfl)) (fun _ _ _ h => h) (Or.inl ⟨by rfl, ?_⟩) hHeld ?_ ?_
                                                  rotate_left
                                                  · rintro w' ⟨s0, s1⟩
                                                    go_simp
                                                    with_reducible rfl
                                                  rotate_left
                                                  · simp only [Act.put, List.setIfInBounds_toArray, List.set_cons_zero, List.set_cons_succ, i64_w, i32_w]
                                                    rfl
                                                  refine one_ (i := 4) (N := some 59) #[true, true, true, true, true, false, true, true, false, true, true, false, false, false, false, false, false, false, true, true, false, false, true, false, false] rfl rfl (one_of HT_.out (by kernel_rfl)) (by decide) (fun K hK => ?_)
                                                  refine goes_ Tryd.func39 (by kernel_rfl) rfl #[.int .i64 (wrap64 (t104 + 1))] (by rfl) rfl rfl (by (try simp only [List.map_toArray, List.map_cons, List.map_nil]); first | done | rfl | (simp only [List.length_drop, List.length_take]; rfl)) ?_
                                                  with_reducible refine (impl_p16.calls (wrap64 (t104 + 1)) t108 _ A36.out).mono ?_
                                                  rintro e w69 ⟨rfl, hb⟩
                                                  refine ⟨_, rfl, ?_⟩
                                                  have n0_ := Aside0.mk (blk_below (g := gb101) (o := .cells #[.string a1_0, .string a1_1] 35 (0, 0)) (by (with_reducible repeat (first | refine blk_drewN ?_ _ | refine blk_drew ?_ | refine blk_alloc ?_ _)); exact BK101.out) hb)
                                                  have n1_ := Aside0.mk (below_step (by repeat (first | (with_reducible first | exact HB.out | apply below_alloc | apply pw_below_drewN | apply below_drew1 | refine below_set ?_ GE101.out) | exact HB.out)) hb)
                                                  clear BK101
                                                  clear HB
                                                  have BK101 := n0_
                                                  have HB := n1_
                                                  clear n0_ n1_
                                                  (try clear hb)
                                                  (try clear hb2)
                                                  (try clear hk)
                                                  (try clear hi)
                                                  refine hK.out _ _ ⟨(blk_cell BK101.out 0).trans rfl, (blk_cell BK101.out 1).trans rfl⟩ (fun hHeld => ?_)
                                                  clear hK K
                                                  refine norm_ (a' := ?_) ?_ ?_
                                                  rotate_left
                                                  · show Act.put _ (some 59) _ = _
                                                    simp only [Act.put, List.setIfInBounds_toArray, List.set_cons_zero, List.set_cons_succ, i64_w, i32_w]
                                                    rfl
                                                  refine pure_ (i := 5) (N := some 60) (v := ?_) (a' := ?_) #[true, true, true, true, true, true, true, true, false, true, true, false, false, false, false, false, false, false, true, true, false, false, true, false, false] rfl rfl (any_of HT_.out (by kernel_rfl)) (fun _ _ _ h => h) (Or.inl ⟨by rfl, ?_⟩) ?_ ?_
                                                  rotate_left
                                                  · intro w'
                                                    go_simp
                                                    with_reducible rfl
                                                  rotate_left
                                                  · simp only [Act.put, List.setIfInBounds_toArray, List.set_cons_zero, List.set_cons_succ, i64_w, i32_w]
                                                    rfl
                                                  refine pure_ (i := 8) (N := some 63) (v := ?_) (a' := ?_) #[true, true, true, true, true, true, true, true, true, true, true, false, false, false, false, false, false, false, true, true, false, false, true, false, false] rfl rfl (any_of HT_.out (by kernel_rfl)) (fun _ _ _ h => h) (Or.inl ⟨by rfl, ?_⟩) ?_ ?_
                                                  rotate_left
                                                  · intro w'
                                                    go_simp
                                                    with_reducible rfl
                                                  rotate_left
                                                  · simp only [Act.put, List.setIfInBounds_toArray, List.set_cons_zero, List.set_cons_succ, i64_w, i32_w]
                                                    rfl
                                                  refine pure_ (i := 11) (N := some 66) (v := ?_) (a' := ?_) #[true, true, true, true, true, true, true, true, true, true, true, true, false, false, false, false, false, false, true, true, false, false, true, false, false] rfl rfl (any_of HT_.out (by kernel_rfl)) (fun _ _ _ h => h) (Or.inl ⟨by rfl, ?_⟩) ?_ ?_
                                                  rotate_left
                                                  · intro w'
                                                    go_simp
                                                    with_reducible rfl
                                                  rotate_left
                                                  · simp only [Act.put, List.setIfInBounds_toArray, List.set_cons_zero, List.set_cons_succ, i64_w, i32_w]
                                                    rfl
                                                  refine one_ (i := 12) (N := some 67) #[true, true, true, true, true, true, true, true, true, true, true, true, true, false, false, false, false, false, true, true, false, false, true, false, false] rfl rfl (one_of HT_.out (by kernel_rfl)) (by decide) (fun K hK => ?_)
                                                  refine goes_ Tryd.func39 (by kernel_rfl) rfl #[.int .i64 250] (by rfl) rfl rfl (by (try simp only [List.map_toArray, List.map_cons, List.map_nil]); first | done | rfl | (simp only [List.length_drop, List.length_take]; rfl)) ?_
                                                  with_reducible refine (impl_p16.calls 250 t109 _ A41.out).mono ?_
                                                  rintro e w70 ⟨rfl, hb⟩
                                                  refine ⟨_, rfl, ?_⟩
                                                  have n0_ := Aside0.mk (blk_below (g := gb101) (o := .cells #[.string a1_0, .string a1_1] 35 (0, 0)) (by (with_reducible repeat (first | refine blk_drewN ?_ _ | refine blk_drew ?_ | refine blk_alloc ?_ _)); exact BK101.out) hb)
                                                  have n1_ := Aside0.mk (below_step (by repeat (first | (with_reducible first | exact HB.out | apply below_alloc | apply pw_below_drewN | apply below_drew1 | refine below_set ?_ GE101.out) | exact HB.out)) hb)
                                                  clear BK101
                                                  clear HB
                                                  have BK101 := n0_
                                                  have HB := n1_
                                                  clear n0_ n1_
                                                  (try clear hb)
                                                  (try clear hb2)
                                                  (try clear hk)
                                                  (try clear hi)
                                                  refine hK.out _ _ ⟨(blk_cell BK101.out 0).trans rfl, (blk_cell BK101.out 1).trans rfl⟩ (fun hHeld => ?_)
                                                  clear hK K
                                                  refine norm_ (a' := ?_) ?_ ?_
                                                  rotate_left
                                                  · show Act.put _ (some 67) _ = _
                                                    simp only [Act.put, List.setIfInBounds_toArray, List.set_cons_zero, List.set_cons_succ, i64_w, i32_w]
                                                    rfl
                                                  refine pure_ (i := 13) (N := some 68) (v := ?_) (a' := ?_) #[true, true, true, true, true, true, true, true, true, true, true, true, true, true, false, false, false, false, true, true, false, false, true, false, false] rfl rfl (any_of HT_.out (by kernel_rfl)) (fun _ _ _ h => h) (Or.inl ⟨by rfl, ?_⟩) ?_ ?_
                                                  rotate_left
                                                  · intro w'
                                                    go_simp
                                                    with_reducible rfl
                                                  rotate_left
                                                  · simp only [Act.put, List.setIfInBounds_toArray, List.set_cons_zero, List.set_cons_succ, i64_w, i32_w]
                                                    rfl
                                                  refine one_ (i := 14) (N := some 69) #[true, true, true, true, true, true, true, true, true, true, true, true, true, true, true, false, false, false, true, true, false, false, true, false, false] rfl rfl (one_of HT_.out (by kernel_rfl)) (by decide) (fun K hK => ?_)
                                                  refine goes_ Tryd.func39 (by kernel_rfl) rfl #[.int .i64 255] (by rfl) rfl rfl (by (try simp only [List.map_toArray, List.map_cons, List.map_nil]); first | done | rfl | (simp only [List.length_drop, List.length_take]; rfl)) ?_
                                                  with_reducible refine (impl_p16.calls 255 t110 _ A43.out).mono ?_
                                                  rintro e w71 ⟨rfl, hb⟩
                                                  refine ⟨_, rfl, ?_⟩
                                                  have n0_ := Aside0.mk (blk_below (g := gb101) (o := .cells #[.string a1_0, .string a1_1] 35 (0, 0)) (by (with_reducible repeat (first | refine blk_drewN ?_ _ | refine blk_drew ?_ | refine blk_alloc ?_ _)); exact BK101.out) hb)
                                                  have n1_ := Aside0.mk (below_step (by repeat (first | (with_reducible first | exact HB.out | apply below_alloc | apply pw_below_drewN | apply below_drew1 | refine below_set ?_ GE101.out) | exact HB.out)) hb)
                                                  clear BK101
                                                  clear HB
                                                  have BK101 := n0_
                                                  have HB := n1_
                                                  clear n0_ n1_
                                                  (try clear hb)
                                                  (try clear hb2)
                                                  (try clear hk)
                                                  (try clear hi)
                                                  refine hK.out _ _ ⟨(blk_cell BK101.out 0).trans rfl, (blk_cell BK101.out 1).trans rfl⟩ (fun hHeld => ?_)
                                                  clear hK K
                                                  refine norm_ (a' := ?_) ?_ ?_
                                                  rotate_left
                                                  · show Act.put _ (some 69) _ = _
                                                    simp only [Act.put, List.setIfInBounds_toArray, List.set_cons_zero, List.set_cons_succ, i64_w, i32_w]
                                                    rfl
                                                  refine pure_ (i := 15) (N := some 70) (v := ?_) (a' := ?_) #[true, true, true, true, true, true, true, true, true, true, true, true, true, true, true, true, false, false, true, true, false, false, true, false, false] rfl rfl (any_of HT_.out (by kernel_rfl)) (fun _ _ _ h => h) (Or.inl ⟨by rfl, ?_⟩) ?_ ?_
                                                  rotate_left
                                                  · intro w'
                                                    go_simp
                                                    with_reducible rfl
                                                  rotate_left
                                                  · simp only [Act.put, List.setIfInBounds_toArray, List.set_cons_zero, List.set_cons_succ, i64_w, i32_w]
                                                    rfl
                                                  refine one_ (i := 16) (N := some 71) #[true, true, true, true, true, true, true, true, true, true, true, true, true, true, true, true, true, false, true, true, false, false, true, false, false] rfl rfl (one_of HT_.out (by kernel_rfl)) (by decide) (fun K hK => ?_)
                                                  refine goes_ Tryd.func40 (by kernel_rfl) rfl #[.int .i64 0] (by rfl) rfl rfl (by (try simp only [List.map_toArray, List.map_cons, List.map_nil]); first | done | rfl | (simp only [List.length_drop, List.length_take]; rfl)) ?_
                                                  with_reducible refine (impl_p32.calls 0 t111 _ A45.out).mono ?_
                                                  rintro e w72 ⟨rfl, hb⟩
                                                  refine ⟨_, rfl, ?_⟩
                                                  have n0_ := Aside0.mk (blk_below (g := gb101) (o := .cells #[.string a1_0, .string a1_1] 35 (0, 0)) (by (with_reducible repeat (first | refine blk_drewN ?_ _ | refine blk_drew ?_ | refine blk_alloc ?_ _)); exact BK101.out) hb)
                                                  have n1_ := Aside0.mk (below_step (by repeat (first | (with_reducible first | exact HB.out | apply below_alloc | apply pw_below_drewN | apply below_drew1 | refine below_set ?_ GE101.out) | exact HB.out)) hb)
                                                  clear BK101
                                                  clear HB
                                                  have BK101 := n0_
                                                  have HB := n1_
                                                  clear n0_ n1_
                                                  (try clear hb)
                                                  (try clear hb2)
                                                  (try clear hk)
                                                  (try clear hi)
                                                  refine hK.out _ _ ⟨(blk_cell BK101.out 0).trans rfl, (blk_cell BK101.out 1).trans rfl⟩ (fun hHeld => ?_)
                                                  clear hK K
                                                  refine norm_ (a' := ?_) ?_ ?_
                                                  rotate_left
                                                  · show Act.put _ (some 71) _ = _
                                                    simp only [Act.put, List.setIfInBounds_toArray, List.set_cons_zero, List.set_cons_succ, i64_w, i32_w]
                                                    rfl
                                                  refine pure_ (i := 17) (N := some 72) (v := ?_) (a' := ?_) #[true, true, true, true, true, true, true, true, true, true, true, true, true, true, true, true, true, true, true, true, false, false, true, false, false] rfl rfl (any_of HT_.out (by kernel_rfl)) (fun _ _ _ h => h) (Or.inl ⟨by rfl, ?_⟩) ?_ ?_
                                                  rotate_left
                                                  · intro w'
                                                    go_simp
                                                    with_reducible rfl
                                                  rotate_left
                                                  · simp only [Act.put, List.setIfInBounds_toArray, List.set_cons_zero, List.set_cons_succ, i64_w, i32_w]
                                                    rfl
                                                  refine one_ (i := 20) (N := some 75) #[true, true, true, true, true, true, true, true, true, true, true, true, true, true, true, true, true, true, true, true, true, false, true, false, false] rfl rfl (one_of HT_.out (by kernel_rfl)) (by decide) (fun K hK => ?_)
                                                  refine goes_ Tryd.func39 (by kernel_rfl) rfl #[.int .i64 ((((((((⟨#[11, 104, 109, 97, 99, 45, 115, 104, 97, 50, 53, 54, 0]⟩ : ByteArray) ++ t105) ++ (⟨#[1, 44]⟩ : ByteArray)) ++ (⟨#[0, 32]⟩ : ByteArray)) ++ t107) ++ ((strOfNums l0).extract 0 2)) ++ (⟨#[0, 0, 0, 0]⟩ : ByteArray)).size : Int)] (by rfl) rfl rfl (by (try simp only [List.map_toArray, List.map_cons, List.map_nil]); first | done | (refine congrArg (fun z_ => #[Value.int .i64 z_]) (?_ : _ = ((((((((⟨#[11, 104, 109, 97, 99, 45, 115, 104, 97, 50, 53, 54, 0]⟩ : ByteArray) ++ t105) ++ (⟨#[1, 44]⟩ : ByteArray)) ++ (⟨#[0, 32]⟩ : ByteArray)) ++ t107) ++ ((strOfNums l0).extract 0 2)) ++ (⟨#[0, 0, 0, 0]⟩ : ByteArray)).size : Int)); simp [ByteArray.size_append, ByteArray.size_extract, (show (⟨#[0, 0, 0, 0]⟩ : ByteArray).size = 4 from rfl), (show (⟨#[0, 32]⟩ : ByteArray).size = 2 from rfl), (show (⟨#[1, 44]⟩ : ByteArray).size = 2 from rfl), (show (⟨#[11, 104, 109, 97, 99, 45, 115, 104, 97, 50, 53, 54, 0]⟩ : ByteArray).size = 13 from rfl)]; done) | rfl | (simp only [List.length_drop, List.length_take]; rfl)) ?_
                                                  with_reducible refine (impl_p16.calls ((((((((⟨#[11, 104, 109, 97, 99, 45, 115, 104, 97, 50, 53, 54, 0]⟩ : ByteArray) ++ t105) ++ (⟨#[1, 44]⟩ : ByteArray)) ++ (⟨#[0, 32]⟩ : ByteArray)) ++ t107) ++ ((strOfNums l0).extract 0 2)) ++ (⟨#[0, 0, 0, 0]⟩ : ByteArray)).size : Int) t112 _ A47.out).mono ?_
                                                  rintro e w73 ⟨rfl, hb⟩
                                                  refine ⟨_, rfl, ?_⟩
                                                  have n0_ := Aside0.mk (blk_below (g := gb101) (o := .cells #[.string a1_0, .string a1_1] 35 (0, 0)) (by (with_reducible repeat (first | refine blk_drewN ?_ _ | refine blk_drew ?_ | refine blk_alloc ?_ _)); exact BK101.out) hb)
                                                  have n1_ := Aside0.mk (below_step (by repeat (first | (with_reducible first | exact HB.out | apply below_alloc | apply pw_below_drewN | apply below_drew1 | refine below_set ?_ GE101.out) | exact HB.out)) hb)
                                                  clear BK101
                                                  clear HB
                                                  have BK101 := n0_
                                                  have HB := n1_
                                                  clear n0_ n1_
                                                  (try clear hb)
                                                  (try clear hb2)
                                                  (try clear hk)
                                                  (try clear hi)
                                                  refine hK.out _ _ ⟨(blk_cell BK101.out 0).trans rfl, (blk_cell BK101.out 1).trans rfl⟩ (fun hHeld => ?_)
                                                  clear hK K
                                                  refine norm_ (a' := ?_) ?_ ?_
                                                  rotate_left
                                                  · show Act.put _ (some 75) _ = _
                                                    simp only [Act.put, List.setIfInBounds_toArray, List.set_cons_zero, List.set_cons_succ, i64_w, i32_w]
                                                    rfl
                                                  refine pure_ (i := 21) (N := some 76) (v := ?_) (a' := ?_) #[true, true, true, true, true, true, true, true, true, true, true, true, true, true, true, true, true, true, true, true, true, true, true, false, false] rfl rfl (any_of HT_.out (by kernel_rfl)) (fun _ _ _ h => h) (Or.inl ⟨by rfl, ?_⟩) ?_ ?_
                                                  rotate_left
                                                  · intro w'
                                                    go_simp
                                                    with_reducible rfl
                                                  rotate_left
                                                  · simp only [Act.put, List.setIfInBounds_toArray, List.set_cons_zero, List.set_cons_succ, i64_w, i32_w]
                                                    rfl
                                                  refine pure_ (i := 23) (N := some 78) (v := ?_) (a' := ?_) #[true, true, true, true, true, true, true, true, true, true, true, true, true, true, true, true, true, true, true, true, true, true, true, true, false] rfl rfl (any_of HT_.out (by kernel_rfl)) (fun _ _ _ h => h) (Or.inl ⟨by rfl, ?_⟩) ?_ ?_
                                                  rotate_left
                                                  · intro w'
                                                    go_simp
                                                    with_reducible rfl
                                                  rotate_left
                                                  · simp only [Act.put, List.setIfInBounds_toArray, List.set_cons_zero, List.set_cons_succ, i64_w, i32_w]
                                                    rfl
                                                  refine pure_ (i := 24) (N := some 13) (v := ?_) (a' := ?_) #[true, true, true, true, true, true, true, true, true, true, true, true, true, true, true, true, true, true, true, true, true, true, true, true, true] rfl rfl (any_of HT_.out (by kernel_rfl)) (fun _ _ _ h => h) (Or.inl ⟨by rfl, ?_⟩) ?_ ?_
                                                  rotate_left
                                                  · intro w'
                                                    go_simp
                                                    with_reducible rfl
                                                  rotate_left
                                                  · simp only [Act.put, List.setIfInBounds_toArray, List.set_cons_zero, List.set_cons_succ, i64_w, i32_w]
                                                    rfl
                                                  refine done_ (done_of HT_.out (by kernel_rfl)) ?_
                                                  try go_wp2_with (first | ((with_reducible refine gate_dst (N := 83) rfl ?_); refine KB.conv_event (Kd.int .u8) rfl 9 22 5 (.tmp 82) rfl Tryd.underlying9 Tryd.underlying22 Tryd.underlying5 ((((((((((strOfNums l0).extract 0 10) ++ t108) ++ ((strOfNums l0).extract 12 (strOfNums l0).size)) ++ a1_0) ++ t109) ++ t110) ++ t111) ++ t112) ++ (((((((⟨#[11, 104, 109, 97, 99, 45, 115, 104, 97, 50, 53, 54, 0]⟩ : ByteArray) ++ t105) ++ (⟨#[1, 44]⟩ : ByteArray)) ++ (⟨#[0, 32]⟩ : ByteArray)) ++ t107) ++ ((strOfNums l0).extract 0 2)) ++ (⟨#[0, 0, 0, 0]⟩ : ByteArray))) rfl (xbytes_some A62.out).1 ?_; intro v114 w74 ho0 hb; rw [(xbytes_some A62.out).2] at ho0; have n0_ := Aside0.mk (KB.R_lower ho0 (below_size (by repeat (first | (with_reducible first | exact HB.out | apply below_alloc | apply pw_below_drewN | apply below_drew1 | refine below_set ?_ GE101.out) | exact HB.out)))); have n1_ := Aside0.mk (blk_below (g := gb101) (o := .cells #[.string a1_0, .string a1_1] 35 (0, 0)) (by (with_reducible repeat (first | refine blk_drewN ?_ _ | refine blk_drew ?_ | refine blk_alloc ?_ _)); exact BK101.out) hb); have n2_ := Aside0.mk (below_step (by repeat (first | (with_reducible first | exact HB.out | apply below_alloc | apply pw_below_drewN | apply below_drew1 | refine below_set ?_ GE101.out) | exact HB.out)) hb); clear BK101; clear HB; have HO115 := n0_; have BK101 := n1_; have HB := n2_; clear n0_ n1_ n2_; (try clear hb); (try clear hb2); (try clear hk); (try clear hi); (try clear ho0)))
                                                  go_ret2
                                                  exact ⟨_, by first | rfl | (simp [errW_none, errW_some] <;> rfl) | (simp [*, errW_none, errW_some] <;> rfl), by (with_reducible repeat (first | apply KB.R_alloc | apply KB.R_drewN | apply KB.R_drew)); exact HO115.out, by repeat (first | (with_reducible first | exact HB.out | apply below_alloc | apply pw_below_drewN | apply below_drew1 | refine below_set ?_ GE101.out) | exact HB.out)⟩
                                              · rw [if_neg c49] at H
                                                exact absurd H (by simp)
                                            · rw [if_neg c48] at H
                                              exact absurd H (by simp)
                                          · rw [if_neg c46] at H
                                            exact absurd H (by simp)
                                        · rw [if_neg c44] at H
                                          exact absurd H (by simp)
                                      · rw [if_neg c42] at H
                                        exact absurd H (by simp)
                                    · rw [if_neg c40] at H
                                      exact absurd H (by simp)
                                  · rw [if_neg c39] at H
                                    exact absurd H (by simp)
                                · rw [if_neg c38] at H
                                  exact absurd H (by simp)
                              · rw [if_neg c37] at H
                                exact absurd H (by simp)
                            · rw [if_neg c34] at H
                              exact absurd H (by simp)
                          · rw [if_neg c33] at H
                            exact absurd H (by simp)
                        · rw [if_neg c32] at H
                          exact absurd H (by simp)
                      · rw [if_neg c31] at H
                        exact absurd H (by simp)
                    · rw [if_neg c30] at H
                      exact absurd H (by simp)
                  · rw [if_neg c29] at H
                    exact absurd H (by simp)
                · rw [if_neg c26] at H
                  exact absurd H (by simp)
              · rw [if_neg c25] at H
                exact absurd H (by simp)
            · rw [if_neg c24] at H
              exact absurd H (by simp)
        · rw [if_neg c19] at H
          exact absurd H (by simp)

end Go.Proofs.YtblpeegpjjcemaaDoor.F
