/- Part 4 of 6 of the proof of FnExactDecode: what each Go function on its way computes, that the Go code does just this, and what the law says of it. No condition beyond the statement's own. -/
import Derived.Laws.BitsAllLaws
import Derived.Test.YtcamchdenjpmhaaDoorMFnExactDecode3
namespace Go.Proofs.YtcamchdenjpmhaaDoor.F
open Go Go.Shelf Go.RowKit Go.Proofs.YtcamchdenjpmhaaDoorW.PrintWords Go.Proofs.YtcamchdenjpmhaaDoorW.PrintLast Go.Proofs.YtcamchdenjpmhaaDoorW.PrintMore
attribute [local go_sem] max2_int min2_int max_two min_two max_three min_three max_four min_four   -- for this text's walks alone
set_option linter.unusedVariables false
set_option linter.unusedSimpArgs false

/-! ### impl_DecodeName: function 30 -/
mutual
def impl_DecodeName.j0 : Nat → List Int → Int → Bool → Option (ByteArray × Int × Int)
  | 0, _, _, _ => none
  | k + 1, x0, x1, x20 => if x20 = true then (some ((⟨#[]⟩ : ByteArray), 0, 32)) else (impl_DecodeName.l0 k x0 x1 x1 (-1) ([] : List Int))
def impl_DecodeName.l0 : Nat → List Int → Int → Int → Int → List Int → Option (ByteArray × Int × Int)
  | 0, _, _, _, _, _ => none
  | k + 1, x0, x7, x8, x9, x10 => if x7 ≥ (x0.length : Int) then (some ((⟨#[]⟩ : ByteArray), 0, 8)) else (if 0 ≤ x7 then (if x7 < (x0.length : Int) then (if (wrap64 (rd x0 x7)) = 0 then (if x9 < 0 then (if x10.length < 140737488355328 then (some (strOfNums (x10 ++ [0]), wrap64 (x7 + 1), 0)) else (none)) else (if x10.length < 140737488355328 then (some (strOfNums (x10 ++ [0]), x9, 0)) else (none))) else (if (wrap64 (rd x0 x7)) ≤ 63 then (if (wrap64 ((wrap64 (x7 + 1)) + (wrap64 (rd x0 x7)))) > (x0.length : Int) then (some ((⟨#[]⟩ : ByteArray), 0, 8)) else (if x7 ≤ (wrap64 ((wrap64 (x7 + 1)) + (wrap64 (rd x0 x7)))) then (if (wrap64 ((wrap64 (x7 + 1)) + (wrap64 (rd x0 x7)))) ≤ (x0.length : Int) then (if x10.length + ((x0.take ((wrap64 ((wrap64 (x7 + 1)) + (wrap64 (rd x0 x7)))) : Int).toNat).drop (x7 : Int).toNat).length < 140737488355328 then ((some (x10 ++ ((x0.take ((wrap64 ((wrap64 (x7 + 1)) + (wrap64 (rd x0 x7)))) : Int).toNat).drop (x7 : Int).toNat) : List Int)).bind fun y109 => (if (wrap64 ((y109.length : Int) + 1)) > 255 then (some ((⟨#[]⟩ : ByteArray), 0, 3)) else (impl_DecodeName.l0 k x0 (wrap64 (x7 + (wrap64 (1 + (wrap64 (rd x0 x7)))))) x8 x9 y109))) else (none)) else (none)) else (none))) else (if (wrap64 (rd x0 x7)) < 192 then (some ((⟨#[]⟩ : ByteArray), 0, 2)) else (if (wrap64 (x7 + 1)) ≥ (x0.length : Int) then (some ((⟨#[]⟩ : ByteArray), 0, 8)) else (if 0 ≤ (wrap64 (x7 + 1)) then (if (wrap64 (x7 + 1)) < (x0.length : Int) then (if (Go.bits .or .i64 (wrap64 ((Go.bits .and .i64 (wrap64 (rd x0 x7)) 63) * 256)) (wrap64 (rd x0 (wrap64 (x7 + 1))))) ≥ x8 then (some ((⟨#[]⟩ : ByteArray), 0, 9)) else (if x9 < 0 then (impl_DecodeName.l0 k x0 (Go.bits .or .i64 (wrap64 ((Go.bits .and .i64 (wrap64 (rd x0 x7)) 63) * 256)) (wrap64 (rd x0 (wrap64 (x7 + 1))))) (Go.bits .or .i64 (wrap64 ((Go.bits .and .i64 (wrap64 (rd x0 x7)) 63) * 256)) (wrap64 (rd x0 (wrap64 (x7 + 1))))) (wrap64 (x7 + 2)) x10) else (impl_DecodeName.l0 k x0 (Go.bits .or .i64 (wrap64 ((Go.bits .and .i64 (wrap64 (rd x0 x7)) 63) * 256)) (wrap64 (rd x0 (wrap64 (x7 + 1))))) (Go.bits .or .i64 (wrap64 ((Go.bits .and .i64 (wrap64 (rd x0 x7)) 63) * 256)) (wrap64 (rd x0 (wrap64 (x7 + 1))))) x9 x10))) else (none)) else (none)))))) else (none)) else (none))
end
def impl_DecodeName.f (k : Nat) (l0 : List Int) (a1 : Int) : Option (ByteArray × Int × Int) := if a1 < 0 then (impl_DecodeName.j0 k l0 a1 true) else (impl_DecodeName.j0 k l0 a1 (decide (a1 > (l0.length : Int))))
theorem impl_DecodeName.mono_l : ∀ k, (∀ y0 y1 y2, LeO (impl_DecodeName.j0 k y0 y1 y2) (impl_DecodeName.j0 (k + 1) y0 y1 y2)) ∧ (∀ y0 y1 y2 y3 y4, LeO (impl_DecodeName.l0 k y0 y1 y2 y3 y4) (impl_DecodeName.l0 (k + 1) y0 y1 y2 y3 y4))
  | 0 => ⟨fun _ _ _ r h => by simp [impl_DecodeName.j0] at h, fun _ _ _ _ _ r h => by simp [impl_DecodeName.l0] at h⟩
  | k + 1 => by
    obtain ⟨ih0, ih1⟩ := impl_DecodeName.mono_l k
    refine ⟨?_, ?_⟩
    · intro y0 y1 y2
      unfold impl_DecodeName.j0
      repeat' first
      | (with_reducible exact ih0 _ _ _)
      | (with_reducible exact ih1 _ _ _ _ _)
      | (with_reducible exact LeO.refl _)
      | (with_reducible exact LeO.none _)
      | (with_reducible refine LeO.ite ?_ ?_)
      | (with_reducible refine LeO.bind ?_ (fun _ => ?_))
      | exact ih0 _ _ _
      | exact ih1 _ _ _ _ _
      | exact LeO.none _
      | refine LeO.ite ?_ ?_
      | refine LeO.bind ?_ (fun _ => ?_)
    · intro y0 y1 y2 y3 y4
      unfold impl_DecodeName.l0
      repeat' first
      | (with_reducible exact ih0 _ _ _)
      | (with_reducible exact ih1 _ _ _ _ _)
      | (with_reducible exact LeO.refl _)
      | (with_reducible exact LeO.none _)
      | (with_reducible refine LeO.ite ?_ ?_)
      | (with_reducible refine LeO.bind ?_ (fun _ => ?_))
      | exact ih0 _ _ _
      | exact ih1 _ _ _ _ _
      | exact LeO.none _
      | refine LeO.ite ?_ ?_
      | refine LeO.bind ?_ (fun _ => ?_)
theorem impl_DecodeName.mono : ∀ a0 a1 k, LeO (impl_DecodeName.f k a0 a1) (impl_DecodeName.f (k + 1) a0 a1) := by
  intro a0 a1 k
  obtain ⟨ih0, ih1⟩ := impl_DecodeName.mono_l k
  unfold impl_DecodeName.f
  repeat' first
      | (with_reducible exact ih0 _ _ _)
      | (with_reducible exact ih1 _ _ _ _ _)
      | (with_reducible exact LeO.refl _)
      | (with_reducible exact LeO.none _)
      | (with_reducible refine LeO.ite ?_ ?_)
      | (with_reducible refine LeO.bind ?_ (fun _ => ?_))
      | exact ih0 _ _ _
      | exact ih1 _ _ _ _ _
      | exact LeO.none _
      | refine LeO.ite ?_ ?_
      | refine LeO.bind ?_ (fun _ => ?_)
set_option maxHeartbeats 8000000 in
set_option maxRecDepth 100000 in
theorem impl_DecodeName.calls (k : Nat) (A0 : Option Addr) (c0 : Nat) (l0 : List Int) (a1 : Int) (r1 : ByteArray) (r2 : Int) (r3 : Int) (w : World) (hr0 : Kd.C (Kd.int .u8) w A0 l0.length l0) (hc0 : l0.length ≤ c0) (h : impl_DecodeName.f k l0 a1 = some (r1, r2, r3)) :
    Calls Tryd.prog 30 #[.slice A0 l0.length c0, .int .i64 a1] w fun e w' => e = .returned (.tuple #[.string r1, .int .i64 r2, .int .i64 r3]) ∧ Below w.heap.size w w' := by
  have HR0 := Aside0.mk hr0
  have HC0 := Aside0.mk hc0
  clear hr0 hc0
  have HB := Aside0.mk (Below.refl w.heap.size w)
  have H : (if a1 < 0 then (impl_DecodeName.j0 k l0 a1 true) else (impl_DecodeName.j0 k l0 a1 (decide (a1 > (l0.length : Int))))) = some (r1, r2, r3) := h
  clear h
  have HC3 := Aside0.mk H
  clear H
  go_enter Tryd.func30, Tryd.ntmps30
  go_upto_region 1 with (fail)
  go_cut [20] (fun v20 wc => ∃ (kq : Nat) (x20_2 : Bool), v20 = .bool x20_2 ∧ Aside0 (impl_DecodeName.j0 kq l0 a1 x20_2 = some (r1, r2, r3)) ∧ Aside0 (kq ≤ k) ∧ Aside0 (Below w.heap.size w wc))
  case first =>
    have H := HC3.out
    clear HC3
    by_cases c4 : a1 < 0
    · rw [if_pos c4] at H
      have c4b0 : decide (a1 < 0) = true := decide_eq_true c4
      clear c4
      (first | rw [c4b0] | (simp only [i64_w, i32_w]; rw [c4b0]) | skip)
      have H' := Aside0.mk H
      clear H
      go_wp2
      go_meet
      case rel => exact ⟨_, (true), (by first | rfl | (simp; done) | (simp [*]; done)), H', ⟨by first | omega | exact Nat.le_refl _⟩, ⟨by repeat (first | (with_reducible first | exact HB.out | apply below_alloc | apply pw_below_drewN | apply below_drew1) | exact HB.out)⟩⟩
    · rw [if_neg c4] at H
      have c4b0 : decide (a1 < 0) = false := decide_eq_false c4
      clear c4
      (first | rw [c4b0] | (simp only [i64_w, i32_w]; rw [c4b0]) | skip)
      have H' := Aside0.mk H
      clear H
      go_wp2
      go_meet
      case rel => exact ⟨_, (decide (a1 > (l0.length : Int))), (by first | rfl | (simp; done) | (simp [*]; done)), H', ⟨by first | omega | exact Nat.le_refl _⟩, ⟨by repeat (first | (with_reducible first | exact HB.out | apply below_alloc | apply pw_below_drewN | apply below_drew1) | exact HB.out)⟩⟩
  case rest =>
    clear HC3
    try clear p2
    try clear c3
    try clear c4
    try clear c4b0
    obtain ⟨kq, x20_2, rfl, HA, HJ2, HB⟩ := hcut
    cases kq with
    | zero => exact absurd HA.out (by simp [impl_DecodeName.j0])
    | succ kj2 =>
      have H := HA.out
      clear HA
      simp only [impl_DecodeName.j0] at H
      by_cases c5 : x20_2 = true
      · subst c5
        have H1 : (some ((⟨#[]⟩ : ByteArray), 0, 32)) = some (r1, r2, r3) := by rw [if_pos rfl] at H; exact H
        clear H
        have H := H1
        clear H1
        simp only [Option.some.injEq, Prod.mk.injEq] at H
        obtain ⟨rfl, rfl, rfl⟩ := H
        go_wp2
        go_ret3
        exact ⟨by first | rfl | (simp [errW_none, errW_some] <;> rfl) | (simp [*, errW_none, errW_some] <;> rfl), by repeat (first | (with_reducible first | exact HB.out | apply below_alloc | apply pw_below_drewN | apply below_drew1) | exact HB.out)⟩
      · replace c5 := Bool.eq_false_iff.mpr c5
        subst c5
        have H1 : (impl_DecodeName.l0 kj2 l0 a1 a1 (-1) ([] : List Int)) = some (r1, r2, r3) := by rw [if_neg (show ¬ (false = true) by decide)] at H; exact H
        clear H
        have H := H1
        clear H1
        have H' := Aside0.mk H
        clear H
        go_wp2
        go_loopg [7, 8, 9, 10] kj2 (fun kq v7 v8 v9 v10 w' => ∃ (x7_2 : Int) (x8_2 : Int) (x9_2 : Int) (x10_2 : List Int), v7 = .int .i64 x7_2 ∧ v8 = .int .i64 x8_2 ∧ v9 = .int .i64 x9_2 ∧ Aside0 (impl_DecodeName.l0 kq l0 x7_2 x8_2 x9_2 x10_2 = some (r1, r2, r3)) ∧ Aside0 (kq ≤ kj2) ∧ Aside0 (Kd.R (Kd.int .u8) 5 w' w.heap.size (fun _ => True) v10 x10_2) ∧ Aside0 (Below w.heap.size w w'))
        case atStart => exact ⟨(a1), (a1), ((-1)), (([] : List Int)), (by first | rfl | (simp; done) | (simp [*]; done)), (by first | rfl | (simp; done) | (simp [*]; done)), (by first | rfl | (simp; done) | (simp [*]; done)), H', ⟨Nat.le_refl _⟩, ⟨by first | exact Kd.R_nil _ _ _ _ _ | exact Kd.N_nil _ _ _ _ _ | exact Kd.V_nil _ _ _ _ _ | exact Kd.Q_nil _ _ _ _ _ | exact Kd.S_nil _ _ _ _ _⟩, ⟨by repeat (first | (with_reducible first | exact HB.out | apply below_alloc | apply pw_below_drewN | apply below_drew1) | exact HB.out)⟩⟩
        case round =>
          clear H'
          try clear p2
          try clear c3
          try clear c4
          try clear c4b0
          try clear c5
          try clear p2
          obtain ⟨x7_2, x8_2, x9_2, x10_2, rfl, rfl, rfl, HA, HK2, HO_10, HB⟩ := hrel
          cases gk with
          | zero => exact absurd HA.out (by simp [impl_DecodeName.l0])
          | succ k2 =>
            have H := HA.out
            clear HA
            simp only [impl_DecodeName.l0] at H
            by_cases c6 : x7_2 ≥ (l0.length : Int)
            · rw [if_pos c6] at H
              have c6b0 : decide ((l0.length : Int) ≤ x7_2) = true := decide_eq_true c6
              clear c6
              simp only [Option.some.injEq, Prod.mk.injEq] at H
              obtain ⟨rfl, rfl, rfl⟩ := H
              go_wp2
              go_ret3
              exact ⟨by first | rfl | (simp [errW_none, errW_some] <;> rfl) | (simp [*, errW_none, errW_some] <;> rfl), by repeat (first | (with_reducible first | exact HB.out | apply below_alloc | apply pw_below_drewN | apply below_drew1) | exact HB.out)⟩
            · rw [if_neg c6] at H
              have c6b0 : decide ((l0.length : Int) ≤ x7_2) = false := decide_eq_false c6
              clear c6
              by_cases c7 : 0 ≤ x7_2
              · rw [if_pos c7] at H
                have c7b0 : decide (0 ≤ x7_2) = true := decide_eq_true c7
                clear c7
                by_cases c8 : x7_2 < (l0.length : Int)
                · rw [if_pos c8] at H
                  have c8b0 : decide (x7_2 < (l0.length : Int)) = true := decide_eq_true c8
                  clear c8
                  by_cases c9 : (wrap64 (rd l0 x7_2)) = 0
                  · rw [if_pos c9] at H
                    have c9b0 : ((wrap64 (rd l0 x7_2)) == 0) = true := beq_iff_eq.mpr c9
                    have c9b1 : ((wrap64 (rd l0 x7_2)) != 0) = false := bne_eq_false_iff_eq.mpr c9
                    clear c9
                    by_cases c10 : x9_2 < 0
                    · rw [if_pos c10] at H
                      have c10b0 : decide (x9_2 < 0) = true := decide_eq_true c10
                      clear c10
                      by_cases c11 : x10_2.length < 140737488355328
                      · rw [if_pos c11] at H
                        have LMc11 := Aside0.mk c11
                        clear c11
                        obtain ⟨y102, hy102⟩ : ∃ y_ : List Int, y_ = (x10_2 ++ [0]) := ⟨_, rfl⟩
                        replace H : (some (strOfNums y102, wrap64 (x7_2 + 1), 0)) = some (r1, r2, r3) := by first | (rw [hy102]; with_reducible exact H) | (have H2_ := (Option.bind_some _ _).symm.trans H; rw [hy102]; with_reducible exact H2_) | (have H2_ := (Option.bind_some _ _).symm.trans H; with_reducible exact H2_) | with_reducible exact H | (rw [hy102]; exact H) | exact H
                        have Ny102 := Aside0.mk hy102
                        clear hy102
                        simp only [Option.some.injEq, Prod.mk.injEq] at H
                        obtain ⟨rfl, rfl, rfl⟩ := H
                        have p101 : 0 ≤ (x7_2 : Int) := of_decide_eq_true (by first | (with_reducible assumption) | assumption)
                        have q101 : x7_2 < (l0.length : Int) := of_decide_eq_true (by first | (with_reducible assumption) | assumption)
                        obtain ⟨ad101, e101, hx101_0⟩ := Kd.at_int HR0.out x7_2 p101 q101
                        cases e101
                        replace hx101_0 := (HB.out.cell (World.block_lt_of_cell? w _ hx101_0)).trans hx101_0
                        replace p101 := eq_true p101
                        replace q101 := eq_true q101
                        go_wp2_with (first | ((with_reducible refine gate_builtin (b := .append) (xs := #[.tmp 63, .tmp 64]) rfl ?_); (try (refine gate_guard (by rfl) ?_; dsimp only)); at_builtin; refine Kd.R_append (Kd.int .u8) (w0 := w) w.heap.size rfl (.tmp 63) (.tmp 64) 22 5 (.int .u8 0) 1 rfl Tryd.underlying22 info5 rfl (by decide) (by omega) u10 x10_2 0 [.int .u8 0] (fun _ => True) (fun _ => False) rfl rfl ?aP (fun _ hk => hk.elim) ?aF ?aO ?aB ?aS ?aL ?_; (case aP => exact rfl); (case aB => exact (by repeat (first | (with_reducible first | exact HB.out | apply below_alloc | apply pw_below_drewN | apply below_drew1) | exact HB.out))); (case aF => exact (fun _ _ => trivial)); (case aO => exact (by (with_reducible repeat (first | apply Kd.R_alloc | apply Kd.R_drewN | apply Kd.R_drew)); exact HO_10.out)); (case aS => exact (below_size (by repeat (first | (with_reducible first | exact HB.out | apply below_alloc | apply pw_below_drewN | apply below_drew1) | exact HB.out)))); (case aL => have := LMc11.out; omega); intro v103 w12 ho hb hg hat; rw [← Ny102.out] at ho; have n0_ := Aside0.mk (hb); have n1_ := Aside0.mk (ho); clear HB; clear HO_10; have HB := n0_; have HO104 := n1_; clear n0_ n1_; clear ho hb hg hat; have hcv13 := own_string (P := Tryd.prog) Tryd.underlying22 Tryd.underlying5 Tryd.underlying9 (Kd.own_of_R HO104.out)))
                        go_ret3
                        exact ⟨by first | rfl | (simp [errW_none, errW_some] <;> rfl) | (simp [*, errW_none, errW_some] <;> rfl), by repeat (first | (with_reducible first | exact HB.out | apply below_alloc | apply pw_below_drewN | apply below_drew1) | exact HB.out)⟩
                      · rw [if_neg c11] at H
                        exact absurd H (by simp)
                    · rw [if_neg c10] at H
                      have c10b0 : decide (x9_2 < 0) = false := decide_eq_false c10
                      clear c10
                      by_cases c14 : x10_2.length < 140737488355328
                      · rw [if_pos c14] at H
                        have LMc14 := Aside0.mk c14
                        clear c14
                        obtain ⟨y105, hy105⟩ : ∃ y_ : List Int, y_ = (x10_2 ++ [0]) := ⟨_, rfl⟩
                        replace H : (some (strOfNums y105, x9_2, 0)) = some (r1, r2, r3) := by first | (rw [hy105]; with_reducible exact H) | (have H2_ := (Option.bind_some _ _).symm.trans H; rw [hy105]; with_reducible exact H2_) | (have H2_ := (Option.bind_some _ _).symm.trans H; with_reducible exact H2_) | with_reducible exact H | (rw [hy105]; exact H) | exact H
                        have Ny105 := Aside0.mk hy105
                        clear hy105
                        simp only [Option.some.injEq, Prod.mk.injEq] at H
                        obtain ⟨rfl, rfl, rfl⟩ := H
                        have p101 : 0 ≤ (x7_2 : Int) := of_decide_eq_true (by first | (with_reducible assumption) | assumption)
                        have q101 : x7_2 < (l0.length : Int) := of_decide_eq_true (by first | (with_reducible assumption) | assumption)
                        obtain ⟨ad101, e101, hx101_0⟩ := Kd.at_int HR0.out x7_2 p101 q101
                        cases e101
                        replace hx101_0 := (HB.out.cell (World.block_lt_of_cell? w _ hx101_0)).trans hx101_0
                        replace p101 := eq_true p101
                        replace q101 := eq_true q101
                        go_wp2_with (first | ((with_reducible refine gate_builtin (b := .append) (xs := #[.tmp 63, .tmp 64]) rfl ?_); (try (refine gate_guard (by rfl) ?_; dsimp only)); at_builtin; refine Kd.R_append (Kd.int .u8) (w0 := w) w.heap.size rfl (.tmp 63) (.tmp 64) 22 5 (.int .u8 0) 1 rfl Tryd.underlying22 info5 rfl (by decide) (by omega) u10 x10_2 0 [.int .u8 0] (fun _ => True) (fun _ => False) rfl rfl ?aP (fun _ hk => hk.elim) ?aF ?aO ?aB ?aS ?aL ?_; (case aP => exact rfl); (case aB => exact (by repeat (first | (with_reducible first | exact HB.out | apply below_alloc | apply pw_below_drewN | apply below_drew1) | exact HB.out))); (case aF => exact (fun _ _ => trivial)); (case aO => exact (by (with_reducible repeat (first | apply Kd.R_alloc | apply Kd.R_drewN | apply Kd.R_drew)); exact HO_10.out)); (case aS => exact (below_size (by repeat (first | (with_reducible first | exact HB.out | apply below_alloc | apply pw_below_drewN | apply below_drew1) | exact HB.out)))); (case aL => have := LMc14.out; omega); intro v106 w15 ho hb hg hat; rw [← Ny105.out] at ho; have n0_ := Aside0.mk (hb); have n1_ := Aside0.mk (ho); clear HB; clear HO_10; have HB := n0_; have HO107 := n1_; clear n0_ n1_; clear ho hb hg hat; have hcv16 := own_string (P := Tryd.prog) Tryd.underlying22 Tryd.underlying5 Tryd.underlying9 (Kd.own_of_R HO107.out)))
                        go_ret3
                        exact ⟨by first | rfl | (simp [errW_none, errW_some] <;> rfl) | (simp [*, errW_none, errW_some] <;> rfl), by repeat (first | (with_reducible first | exact HB.out | apply below_alloc | apply pw_below_drewN | apply below_drew1) | exact HB.out)⟩
                      · rw [if_neg c14] at H
                        exact absurd H (by simp)
                  · rw [if_neg c9] at H
                    have c9b0 : ((wrap64 (rd l0 x7_2)) == 0) = false := beq_eq_false_iff_ne.mpr c9
                    have c9b1 : ((wrap64 (rd l0 x7_2)) != 0) = true := bne_iff_ne.mpr c9
                    by_cases c17 : (wrap64 (rd l0 x7_2)) ≤ 63
                    · rw [if_pos c17] at H
                      have c17b0 : decide ((wrap64 (rd l0 x7_2)) ≤ 63) = true := decide_eq_true c17
                      clear c17
                      by_cases c18 : (wrap64 ((wrap64 (x7_2 + 1)) + (wrap64 (rd l0 x7_2)))) > (l0.length : Int)
                      · rw [if_pos c18] at H
                        have c18b0 : decide ((l0.length : Int) < (wrap64 ((wrap64 (x7_2 + 1)) + (wrap64 (rd l0 x7_2))))) = true := decide_eq_true c18
                        clear c18
                        simp only [Option.some.injEq, Prod.mk.injEq] at H
                        obtain ⟨rfl, rfl, rfl⟩ := H
                        have p101 : 0 ≤ (x7_2 : Int) := of_decide_eq_true (by first | (with_reducible assumption) | assumption)
                        have q101 : x7_2 < (l0.length : Int) := of_decide_eq_true (by first | (with_reducible assumption) | assumption)
                        obtain ⟨ad101, e101, hx101_0⟩ := Kd.at_int HR0.out x7_2 p101 q101
                        cases e101
                        replace hx101_0 := (HB.out.cell (World.block_lt_of_cell? w _ hx101_0)).trans hx101_0
                        replace p101 := eq_true p101
                        replace q101 := eq_true q101
                        go_wp2
                        go_ret3
                        exact ⟨by first | rfl | (simp [errW_none, errW_some] <;> rfl) | (simp [*, errW_none, errW_some] <;> rfl), by repeat (first | (with_reducible first | exact HB.out | apply below_alloc | apply pw_below_drewN | apply below_drew1) | exact HB.out)⟩
                      · rw [if_neg c18] at H
                        have c18b0 : decide ((l0.length : Int) < (wrap64 ((wrap64 (x7_2 + 1)) + (wrap64 (rd l0 x7_2))))) = false := decide_eq_false c18
                        clear c18
                        have c19b0 := eq_true (of_decide_eq_true (by first | (with_reducible assumption) | assumption) : 0 ≤ x7_2)
                        by_cases c20 : x7_2 ≤ (wrap64 ((wrap64 (x7_2 + 1)) + (wrap64 (rd l0 x7_2))))
                        · rw [if_pos c20] at H
                          have c20b0 := eq_true c20
                          have c20b1 : decide (x7_2 ≤ (wrap64 ((wrap64 (x7_2 + 1)) + (wrap64 (rd l0 x7_2))))) = true := decide_eq_true c20
                          by_cases c21 : (wrap64 ((wrap64 (x7_2 + 1)) + (wrap64 (rd l0 x7_2)))) ≤ (l0.length : Int)
                          · rw [if_pos c21] at H
                            have c21b0 := eq_true c21
                            have c21b1 : decide ((wrap64 ((wrap64 (x7_2 + 1)) + (wrap64 (rd l0 x7_2)))) ≤ (l0.length : Int)) = true := decide_eq_true c21
                            by_cases c22 : x10_2.length + ((l0.take ((wrap64 ((wrap64 (x7_2 + 1)) + (wrap64 (rd l0 x7_2)))) : Int).toNat).drop (x7_2 : Int).toNat).length < 140737488355328
                            · rw [if_pos c22] at H
                              have LMc22 := Aside0.mk c22
                              clear c22
                              obtain ⟨y109, hy109⟩ : ∃ y_ : List Int, y_ = (x10_2 ++ ((l0.take ((wrap64 ((wrap64 (x7_2 + 1)) + (wrap64 (rd l0 x7_2)))) : Int).toNat).drop (x7_2 : Int).toNat)) := ⟨_, rfl⟩
                              replace H : (if (wrap64 ((y109.length : Int) + 1)) > 255 then (some ((⟨#[]⟩ : ByteArray), 0, 3)) else (impl_DecodeName.l0 k2 l0 (wrap64 (x7_2 + (wrap64 (1 + (wrap64 (rd l0 x7_2)))))) x8_2 x9_2 y109)) = some (r1, r2, r3) := by first | (rw [hy109]; with_reducible exact H) | (have H2_ := (Option.bind_some _ _).symm.trans H; rw [hy109]; with_reducible exact H2_) | (have H2_ := (Option.bind_some _ _).symm.trans H; with_reducible exact H2_) | with_reducible exact H | (rw [hy109]; exact H) | exact H
                              have Ny109 := Aside0.mk hy109
                              clear hy109
                              by_cases c23 : (wrap64 ((y109.length : Int) + 1)) > 255
                              · rw [if_pos c23] at H
                                have c23b0 : decide (255 < (wrap64 ((y109.length : Int) + 1))) = true := decide_eq_true c23
                                clear c23
                                simp only [Option.some.injEq, Prod.mk.injEq] at H
                                obtain ⟨rfl, rfl, rfl⟩ := H
                                have p101 : 0 ≤ (x7_2 : Int) := of_decide_eq_true (by first | (with_reducible assumption) | assumption)
                                have q101 : x7_2 < (l0.length : Int) := of_decide_eq_true (by first | (with_reducible assumption) | assumption)
                                obtain ⟨ad101, e101, hx101_0⟩ := Kd.at_int HR0.out x7_2 p101 q101
                                cases e101
                                replace hx101_0 := (HB.out.cell (World.block_lt_of_cell? w _ hx101_0)).trans hx101_0
                                replace p101 := eq_true p101
                                replace q101 := eq_true q101
                                obtain ⟨i024, hi024, _, hsz24, _⟩ := info_parts info5
                                obtain ⟨A24, hcut24, hA24, hC24⟩ := print_mid_of (P := Tryd.prog) (Value.int .u8) 0 22 5 .i64 .i64 Tryd.underlying22 hi024 hsz24 (some ad101) c0 l0 x7_2 (wrap64 ((wrap64 (x7_2 + 1)) + (wrap64 (rd l0 x7_2)))) (of_decide_eq_true (by first | (with_reducible assumption) | assumption)) (by first | omega | exact of_decide_eq_true (by first | (with_reducible assumption) | assumption)) (of_decide_eq_true (by first | (with_reducible assumption) | assumption)) HC0.out
                                have HR108 := Aside0.mk (Kd.C_of_reads (h1 := fun _ => rfl) (hA24 _ (Kd.reads_of_C HR0.out)))
                                have HC108 := Aside0.mk hC24
                                clear hA24 hC24 hi024 hsz24
                                go_wp2_with (first | ((with_reducible refine gate_builtin (b := .append) (xs := #[.tmp 78, .tmp 85]) rfl ?_); (try (refine gate_guard (by rfl) ?_; dsimp only)); at_builtin; refine Kd.R_append_rows (Kd.int .u8) (w0 := w) w.heap.size rfl (.tmp 78) (.tmp 85) 22 5 (.int .u8 0) 1 rfl Tryd.underlying22 info5 rfl (by decide) (by omega) u10 x10_2 ((l0.take ((wrap64 ((wrap64 (x7_2 + 1)) + (wrap64 (rd l0 x7_2)))) : Int).toNat).drop (x7_2 : Int).toNat) _ _ _ (fun _ => True) (fun _ => False) rfl rfl ?aO ?aR (fun _ _ h => h) (fun _ h => h.elim) ?aF ?aB ?aS ?aL ?_; (case aR => first | (rw [← show ((l0.take ((wrap64 ((wrap64 (x7_2 + 1)) + (wrap64 (rd l0 x7_2)))) : Int).toNat).drop (x7_2 : Int).toNat).length = ((wrap64 ((wrap64 (x7_2 + 1)) + (wrap64 (rd l0 x7_2)))).toNat - x7_2.toNat) from (by rw [List.length_drop, List.length_take]; have h_ : ((wrap64 ((wrap64 (x7_2 + 1)) + (wrap64 (rd l0 x7_2)))) : Int) ≤ (l0.length : Int) := of_decide_eq_true (by first | (with_reducible assumption) | assumption); omega)]; repeat (first | exact (Kd.C_below HR108.out HB.out) | (with_reducible refine Kd.C_alloc ?_ _) | (with_reducible refine Kd.C_drewN ?_ _) | (with_reducible refine Kd.C_drew ?_))) | (repeat (first | exact (Kd.C_below HR108.out HB.out) | (with_reducible refine Kd.C_alloc ?_ _) | (with_reducible refine Kd.C_drewN ?_ _) | (with_reducible refine Kd.C_drew ?_)))); (case aB => exact (by repeat (first | (with_reducible first | exact HB.out | apply below_alloc | apply pw_below_drewN | apply below_drew1) | exact HB.out))); (case aF => exact (fun _ _ => trivial)); (case aO => exact (by (with_reducible repeat (first | apply Kd.R_alloc | apply Kd.R_drewN | apply Kd.R_drew)); exact HO_10.out)); (case aS => exact (below_size (by repeat (first | (with_reducible first | exact HB.out | apply below_alloc | apply pw_below_drewN | apply below_drew1) | exact HB.out)))); (case aL => have := LMc22.out; have hlx_ := (show ((l0.take ((wrap64 ((wrap64 (x7_2 + 1)) + (wrap64 (rd l0 x7_2)))) : Int).toNat).drop (x7_2 : Int).toNat).length = ((wrap64 ((wrap64 (x7_2 + 1)) + (wrap64 (rd l0 x7_2)))).toNat - x7_2.toNat) from (by rw [List.length_drop, List.length_take]; have h_ : ((wrap64 ((wrap64 (x7_2 + 1)) + (wrap64 (rd l0 x7_2)))) : Int) ≤ (l0.length : Int) := of_decide_eq_true (by first | (with_reducible assumption) | assumption); omega)); omega); intro v110 w25 ho hb hg hat; rw [← Ny109.out] at ho; have n0_ := Aside0.mk (hb); have n1_ := Aside0.mk (ho); clear HB; clear HO_10; have HB := n0_; have HO111 := n1_; clear n0_ n1_; clear ho hb hg hat; obtain ⟨Ao26, co26, eo26⟩ := Kd.R_slice HO111.out; subst eo26))
                                go_ret3
                                exact ⟨by first | rfl | (simp [errW_none, errW_some] <;> rfl) | (simp [*, errW_none, errW_some] <;> rfl), by repeat (first | (with_reducible first | exact HB.out | apply below_alloc | apply pw_below_drewN | apply below_drew1) | exact HB.out)⟩
                              · rw [if_neg c23] at H
                                have c23b0 : decide (255 < (wrap64 ((y109.length : Int) + 1))) = false := decide_eq_false c23
                                clear c23
                                have H' := Aside0.mk H
                                clear H
                                have p101 : 0 ≤ (x7_2 : Int) := of_decide_eq_true (by first | (with_reducible assumption) | assumption)
                                have q101 : x7_2 < (l0.length : Int) := of_decide_eq_true (by first | (with_reducible assumption) | assumption)
                                obtain ⟨ad101, e101, hx101_0⟩ := Kd.at_int HR0.out x7_2 p101 q101
                                cases e101
                                replace hx101_0 := (HB.out.cell (World.block_lt_of_cell? w _ hx101_0)).trans hx101_0
                                replace p101 := eq_true p101
                                replace q101 := eq_true q101
                                obtain ⟨i027, hi027, _, hsz27, _⟩ := info_parts info5
                                obtain ⟨A27, hcut27, hA27, hC27⟩ := print_mid_of (P := Tryd.prog) (Value.int .u8) 0 22 5 .i64 .i64 Tryd.underlying22 hi027 hsz27 (some ad101) c0 l0 x7_2 (wrap64 ((wrap64 (x7_2 + 1)) + (wrap64 (rd l0 x7_2)))) (of_decide_eq_true (by first | (with_reducible assumption) | assumption)) (by first | omega | exact of_decide_eq_true (by first | (with_reducible assumption) | assumption)) (of_decide_eq_true (by first | (with_reducible assumption) | assumption)) HC0.out
                                have HR108 := Aside0.mk (Kd.C_of_reads (h1 := fun _ => rfl) (hA27 _ (Kd.reads_of_C HR0.out)))
                                have HC108 := Aside0.mk hC27
                                clear hA27 hC27 hi027 hsz27
                                go_wp2_with (first | ((with_reducible refine gate_builtin (b := .append) (xs := #[.tmp 78, .tmp 85]) rfl ?_); (try (refine gate_guard (by rfl) ?_; dsimp only)); at_builtin; refine Kd.R_append_rows (Kd.int .u8) (w0 := w) w.heap.size rfl (.tmp 78) (.tmp 85) 22 5 (.int .u8 0) 1 rfl Tryd.underlying22 info5 rfl (by decide) (by omega) u10 x10_2 ((l0.take ((wrap64 ((wrap64 (x7_2 + 1)) + (wrap64 (rd l0 x7_2)))) : Int).toNat).drop (x7_2 : Int).toNat) _ _ _ (fun _ => True) (fun _ => False) rfl rfl ?aO ?aR (fun _ _ h => h) (fun _ h => h.elim) ?aF ?aB ?aS ?aL ?_; (case aR => first | (rw [← show ((l0.take ((wrap64 ((wrap64 (x7_2 + 1)) + (wrap64 (rd l0 x7_2)))) : Int).toNat).drop (x7_2 : Int).toNat).length = ((wrap64 ((wrap64 (x7_2 + 1)) + (wrap64 (rd l0 x7_2)))).toNat - x7_2.toNat) from (by rw [List.length_drop, List.length_take]; have h_ : ((wrap64 ((wrap64 (x7_2 + 1)) + (wrap64 (rd l0 x7_2)))) : Int) ≤ (l0.length : Int) := of_decide_eq_true (by first | (with_reducible assumption) | assumption); omega)]; repeat (first | exact (Kd.C_below HR108.out HB.out) | (with_reducible refine Kd.C_alloc ?_ _) | (with_reducible refine Kd.C_drewN ?_ _) | (with_reducible refine Kd.C_drew ?_))) | (repeat (first | exact (Kd.C_below HR108.out HB.out) | (with_reducible refine Kd.C_alloc ?_ _) | (with_reducible refine Kd.C_drewN ?_ _) | (with_reducible refine Kd.C_drew ?_)))); (case aB => exact (by repeat (first | (with_reducible first | exact HB.out | apply below_alloc | apply pw_below_drewN | apply below_drew1) | exact HB.out))); (case aF => exact (fun _ _ => trivial)); (case aO => exact (by (with_reducible repeat (first | apply Kd.R_alloc | apply Kd.R_drewN | apply Kd.R_drew)); exact HO_10.out)); (case aS => exact (below_size (by repeat (first | (with_reducible first | exact HB.out | apply below_alloc | apply pw_below_drewN | apply below_drew1) | exact HB.out)))); (case aL => have := LMc22.out; have hlx_ := (show ((l0.take ((wrap64 ((wrap64 (x7_2 + 1)) + (wrap64 (rd l0 x7_2)))) : Int).toNat).drop (x7_2 : Int).toNat).length = ((wrap64 ((wrap64 (x7_2 + 1)) + (wrap64 (rd l0 x7_2)))).toNat - x7_2.toNat) from (by rw [List.length_drop, List.length_take]; have h_ : ((wrap64 ((wrap64 (x7_2 + 1)) + (wrap64 (rd l0 x7_2)))) : Int) ≤ (l0.length : Int) := of_decide_eq_true (by first | (with_reducible assumption) | assumption); omega)); omega); intro v110 w28 ho hb hg hat; rw [← Ny109.out] at ho; have n0_ := Aside0.mk (hb); have n1_ := Aside0.mk (ho); clear HB; clear HO_10; have HB := n0_; have HO111 := n1_; clear n0_ n1_; clear ho hb hg hat; obtain ⟨Ao29, co29, eo29⟩ := Kd.R_slice HO111.out; subst eo29))
                                go_roundg k2
                                case measure => have := HJ2.out; have := HK2.out; omega
                                case rel => exact ⟨(wrap64 (x7_2 + (wrap64 (1 + (wrap64 (rd l0 x7_2)))))), (x8_2), (x9_2), (y109), (by first | rfl | (simp; done) | (simp [*]; done)), (by first | rfl | (simp; done) | (simp [*]; done)), (by first | rfl | (simp; done) | (simp [*]; done)), H', ⟨by have := HJ2.out; have := HK2.out; omega⟩, ⟨by (with_reducible repeat (first | apply Kd.R_alloc | apply Kd.R_drewN | apply Kd.R_drew)); exact HO111.out⟩, ⟨by repeat (first | (with_reducible first | exact HB.out | apply below_alloc | apply pw_below_drewN | apply below_drew1) | exact HB.out)⟩⟩
                            · rw [if_neg c22] at H
                              exact absurd H (by simp)
                          · rw [if_neg c21] at H
                            exact absurd H (by simp)
                        · rw [if_neg c20] at H
                          exact absurd H (by simp)
                    · rw [if_neg c17] at H
                      have c17b0 : decide ((wrap64 (rd l0 x7_2)) ≤ 63) = false := decide_eq_false c17
                      clear c17
                      by_cases c30 : (wrap64 (rd l0 x7_2)) < 192
                      · rw [if_pos c30] at H
                        have c30b0 : decide ((wrap64 (rd l0 x7_2)) < 192) = true := decide_eq_true c30
                        clear c30
                        simp only [Option.some.injEq, Prod.mk.injEq] at H
                        obtain ⟨rfl, rfl, rfl⟩ := H
                        have p101 : 0 ≤ (x7_2 : Int) := of_decide_eq_true (by first | (with_reducible assumption) | assumption)
                        have q101 : x7_2 < (l0.length : Int) := of_decide_eq_true (by first | (with_reducible assumption) | assumption)
                        obtain ⟨ad101, e101, hx101_0⟩ := Kd.at_int HR0.out x7_2 p101 q101
                        cases e101
                        replace hx101_0 := (HB.out.cell (World.block_lt_of_cell? w _ hx101_0)).trans hx101_0
                        replace p101 := eq_true p101
                        replace q101 := eq_true q101
                        go_wp2
                        go_ret3
                        exact ⟨by first | rfl | (simp [errW_none, errW_some] <;> rfl) | (simp [*, errW_none, errW_some] <;> rfl), by repeat (first | (with_reducible first | exact HB.out | apply below_alloc | apply pw_below_drewN | apply below_drew1) | exact HB.out)⟩
                      · rw [if_neg c30] at H
                        have c30b0 : decide ((wrap64 (rd l0 x7_2)) < 192) = false := decide_eq_false c30
                        clear c30
                        by_cases c31 : (wrap64 (x7_2 + 1)) ≥ (l0.length : Int)
                        · rw [if_pos c31] at H
                          have c31b0 : decide ((l0.length : Int) ≤ (wrap64 (x7_2 + 1))) = true := decide_eq_true c31
                          clear c31
                          simp only [Option.some.injEq, Prod.mk.injEq] at H
                          obtain ⟨rfl, rfl, rfl⟩ := H
                          have p101 : 0 ≤ (x7_2 : Int) := of_decide_eq_true (by first | (with_reducible assumption) | assumption)
                          have q101 : x7_2 < (l0.length : Int) := of_decide_eq_true (by first | (with_reducible assumption) | assumption)
                          obtain ⟨ad101, e101, hx101_0⟩ := Kd.at_int HR0.out x7_2 p101 q101
                          cases e101
                          replace hx101_0 := (HB.out.cell (World.block_lt_of_cell? w _ hx101_0)).trans hx101_0
                          replace p101 := eq_true p101
                          replace q101 := eq_true q101
                          go_wp2
                          go_ret3
                          exact ⟨by first | rfl | (simp [errW_none, errW_some] <;> rfl) | (simp [*, errW_none, errW_some] <;> rfl), by repeat (first | (with_reducible first | exact HB.out | apply below_alloc | apply pw_below_drewN | apply below_drew1) | exact HB.out)⟩
                        · rw [if_neg c31] at H
                          have c31b0 : decide ((l0.length : Int) ≤ (wrap64 (x7_2 + 1))) = false := decide_eq_false c31
                          clear c31
                          obtain ⟨ji32, hji32⟩ : ∃ j_ : Int, (wrap64 (x7_2 + 1)) = j_ := ⟨_, rfl⟩
                          replace H : (if 0 ≤ (ji32) then (if (ji32) < (l0.length : Int) then (if (Go.bits .or .i64 (wrap64 ((Go.bits .and .i64 (wrap64 (rd l0 x7_2)) 63) * 256)) (wrap64 (rd l0 (ji32)))) ≥ x8_2 then (some ((⟨#[]⟩ : ByteArray), 0, 9)) else (if x9_2 < 0 then (impl_DecodeName.l0 k2 l0 (Go.bits .or .i64 (wrap64 ((Go.bits .and .i64 (wrap64 (rd l0 x7_2)) 63) * 256)) (wrap64 (rd l0 (ji32)))) (Go.bits .or .i64 (wrap64 ((Go.bits .and .i64 (wrap64 (rd l0 x7_2)) 63) * 256)) (wrap64 (rd l0 (ji32)))) (wrap64 (x7_2 + 2)) x10_2) else (impl_DecodeName.l0 k2 l0 (Go.bits .or .i64 (wrap64 ((Go.bits .and .i64 (wrap64 (rd l0 x7_2)) 63) * 256)) (wrap64 (rd l0 (ji32)))) (Go.bits .or .i64 (wrap64 ((Go.bits .and .i64 (wrap64 (rd l0 x7_2)) 63) * 256)) (wrap64 (rd l0 (ji32)))) x9_2 x10_2))) else (none)) else (none)) = some (r1, r2, r3) := by first | (rw [hji32] at H; exact H) | (simp only [hji32] at H ⊢; exact H)
                          (try rw [hji32] at c31b0)
                          have hji32w : (IntKind.i64.wrap (x7_2 + 1)) = ji32 := (i64_w _).trans hji32
                          by_cases c33 : 0 ≤ (ji32)
                          · rw [if_pos c33] at H
                            have c33b0 : decide (0 ≤ (ji32)) = true := decide_eq_true c33
                            clear c33
                            by_cases c34 : (ji32) < (l0.length : Int)
                            · rw [if_pos c34] at H
                              have c34b0 : decide ((ji32) < (l0.length : Int)) = true := decide_eq_true c34
                              clear c34
                              by_cases c35 : (Go.bits .or .i64 (wrap64 ((Go.bits .and .i64 (wrap64 (rd l0 x7_2)) 63) * 256)) (wrap64 (rd l0 (ji32)))) ≥ x8_2
                              · rw [if_pos c35] at H
                                have c35b0 : decide (x8_2 ≤ (Go.bits .or .i64 (wrap64 ((Go.bits .and .i64 (wrap64 (rd l0 x7_2)) 63) * 256)) (wrap64 (rd l0 (ji32))))) = true := decide_eq_true c35
                                clear c35
                                simp only [Option.some.injEq, Prod.mk.injEq] at H
                                obtain ⟨rfl, rfl, rfl⟩ := H
                                have p101 : 0 ≤ (x7_2 : Int) := of_decide_eq_true (by first | (with_reducible assumption) | assumption)
                                have q101 : x7_2 < (l0.length : Int) := of_decide_eq_true (by first | (with_reducible assumption) | assumption)
                                obtain ⟨ad101, e101, hx101_0⟩ := Kd.at_int HR0.out x7_2 p101 q101
                                cases e101
                                replace hx101_0 := (HB.out.cell (World.block_lt_of_cell? w _ hx101_0)).trans hx101_0
                                replace p101 := eq_true p101
                                replace q101 := eq_true q101
                                have p112 : 0 ≤ ((ji32) : Int) := of_decide_eq_true (by first | (with_reducible assumption) | assumption)
                                have q112 : (ji32) < (l0.length : Int) := of_decide_eq_true (by first | (with_reducible assumption) | assumption)
                                obtain ⟨ad112, e112, hx112_0⟩ := Kd.at_int HR0.out (ji32) p112 q112
                                obtain rfl : ad101 = ad112 := (by injection e112)
                                replace hx112_0 := (HB.out.cell (World.block_lt_of_cell? w _ hx112_0)).trans hx112_0
                                replace p112 := eq_true p112
                                replace q112 := eq_true q112
                                go_wp2
                                go_ret3
                                exact ⟨by first | rfl | (simp [errW_none, errW_some] <;> rfl) | (simp only [← hji32]; first | rfl | (simp [errW_none, errW_some] <;> rfl)) | (simp [*, errW_none, errW_some] <;> rfl), by repeat (first | (with_reducible first | exact HB.out | apply below_alloc | apply pw_below_drewN | apply below_drew1) | exact HB.out)⟩
                              · rw [if_neg c35] at H
                                have c35b0 : decide (x8_2 ≤ (Go.bits .or .i64 (wrap64 ((Go.bits .and .i64 (wrap64 (rd l0 x7_2)) 63) * 256)) (wrap64 (rd l0 (ji32))))) = false := decide_eq_false c35
                                clear c35
                                by_cases c36 : x9_2 < 0
                                · rw [if_pos c36] at H
                                  have c36b0 : decide (x9_2 < 0) = true := decide_eq_true c36
                                  clear c36
                                  have H' := Aside0.mk H
                                  clear H
                                  have p101 : 0 ≤ (x7_2 : Int) := of_decide_eq_true (by first | (with_reducible assumption) | assumption)
                                  have q101 : x7_2 < (l0.length : Int) := of_decide_eq_true (by first | (with_reducible assumption) | assumption)
                                  obtain ⟨ad101, e101, hx101_0⟩ := Kd.at_int HR0.out x7_2 p101 q101
                                  cases e101
                                  replace hx101_0 := (HB.out.cell (World.block_lt_of_cell? w _ hx101_0)).trans hx101_0
                                  replace p101 := eq_true p101
                                  replace q101 := eq_true q101
                                  have p112 : 0 ≤ ((ji32) : Int) := of_decide_eq_true (by first | (with_reducible assumption) | assumption)
                                  have q112 : (ji32) < (l0.length : Int) := of_decide_eq_true (by first | (with_reducible assumption) | assumption)
                                  obtain ⟨ad112, e112, hx112_0⟩ := Kd.at_int HR0.out (ji32) p112 q112
                                  obtain rfl : ad101 = ad112 := (by injection e112)
                                  replace hx112_0 := (HB.out.cell (World.block_lt_of_cell? w _ hx112_0)).trans hx112_0
                                  replace p112 := eq_true p112
                                  replace q112 := eq_true q112
                                  go_wp2
                                  go_roundg k2
                                  case measure => have := HJ2.out; have := HK2.out; omega
                                  case rel => exact ⟨(Go.bits .or .i64 (wrap64 ((Go.bits .and .i64 (wrap64 (rd l0 x7_2)) 63) * 256)) (wrap64 (rd l0 (ji32)))), (Go.bits .or .i64 (wrap64 ((Go.bits .and .i64 (wrap64 (rd l0 x7_2)) 63) * 256)) (wrap64 (rd l0 (ji32)))), (wrap64 (x7_2 + 2)), (x10_2), (by first | rfl | (simp; done) | (simp only [← hji32] <;> (first | rfl | simp)) | (simp [*]; done)), (by first | rfl | (simp; done) | (simp only [← hji32] <;> (first | rfl | simp)) | (simp [*]; done)), (by first | rfl | (simp; done) | (simp [*]; done)), H', ⟨by have := HJ2.out; have := HK2.out; omega⟩, ⟨by (with_reducible repeat (first | apply Kd.R_alloc | apply Kd.R_drewN | apply Kd.R_drew)); exact HO_10.out⟩, ⟨by repeat (first | (with_reducible first | exact HB.out | apply below_alloc | apply pw_below_drewN | apply below_drew1) | exact HB.out)⟩⟩
                                · rw [if_neg c36] at H
                                  have c36b0 : decide (x9_2 < 0) = false := decide_eq_false c36
                                  clear c36
                                  have H' := Aside0.mk H
                                  clear H
                                  have p101 : 0 ≤ (x7_2 : Int) := of_decide_eq_true (by first | (with_reducible assumption) | assumption)
                                  have q101 : x7_2 < (l0.length : Int) := of_decide_eq_true (by first | (with_reducible assumption) | assumption)
                                  obtain ⟨ad101, e101, hx101_0⟩ := Kd.at_int HR0.out x7_2 p101 q101
                                  cases e101
                                  replace hx101_0 := (HB.out.cell (World.block_lt_of_cell? w _ hx101_0)).trans hx101_0
                                  replace p101 := eq_true p101
                                  replace q101 := eq_true q101
                                  have p112 : 0 ≤ ((ji32) : Int) := of_decide_eq_true (by first | (with_reducible assumption) | assumption)
                                  have q112 : (ji32) < (l0.length : Int) := of_decide_eq_true (by first | (with_reducible assumption) | assumption)
                                  obtain ⟨ad112, e112, hx112_0⟩ := Kd.at_int HR0.out (ji32) p112 q112
                                  obtain rfl : ad101 = ad112 := (by injection e112)
                                  replace hx112_0 := (HB.out.cell (World.block_lt_of_cell? w _ hx112_0)).trans hx112_0
                                  replace p112 := eq_true p112
                                  replace q112 := eq_true q112
                                  go_wp2
                                  go_roundg k2
                                  case measure => have := HJ2.out; have := HK2.out; omega
                                  case rel => exact ⟨(Go.bits .or .i64 (wrap64 ((Go.bits .and .i64 (wrap64 (rd l0 x7_2)) 63) * 256)) (wrap64 (rd l0 (ji32)))), (Go.bits .or .i64 (wrap64 ((Go.bits .and .i64 (wrap64 (rd l0 x7_2)) 63) * 256)) (wrap64 (rd l0 (ji32)))), (x9_2), (x10_2), (by first | rfl | (simp; done) | (simp only [← hji32] <;> (first | rfl | simp)) | (simp [*]; done)), (by first | rfl | (simp; done) | (simp only [← hji32] <;> (first | rfl | simp)) | (simp [*]; done)), (by first | rfl | (simp; done) | (simp [*]; done)), H', ⟨by have := HJ2.out; have := HK2.out; omega⟩, ⟨by (with_reducible repeat (first | apply Kd.R_alloc | apply Kd.R_drewN | apply Kd.R_drew)); exact HO_10.out⟩, ⟨by repeat (first | (with_reducible first | exact HB.out | apply below_alloc | apply pw_below_drewN | apply below_drew1) | exact HB.out)⟩⟩
                            · rw [if_neg c34] at H
                              exact absurd H (by simp)
                          · rw [if_neg c33] at H
                            exact absurd H (by simp)
                · rw [if_neg c8] at H
                  exact absurd H (by simp)
              · rw [if_neg c7] at H
                exact absurd H (by simp)

end Go.Proofs.YtcamchdenjpmhaaDoor.F
namespace Go.Proofs.YtcamchdenjpmhaaDoor.F
open Go Go.Shelf Go.RowKit Go.Proofs.YtcamchdenjpmhaaDoorW.PrintWords Go.Proofs.YtcamchdenjpmhaaDoorW.PrintLast Go.Proofs.YtcamchdenjpmhaaDoorW.PrintMore
attribute [local go_sem] max2_int min2_int max_two min_two max_three min_three max_four min_four   -- for this text's walks alone
set_option linter.unusedVariables false
set_option linter.unusedSimpArgs false

/-! ### stands 27 -/
-- stands: blocks that are written into
theorem grown_set (w : World) (a i : Nat) (v : Value) : w.grownBy (w.setCell ⟨a, i, none⟩ v) (some a) :=
  ⟨rfl, rfl, rfl, by simp, fun k _ hne => Below.heap_setCell w _ _ k (fun e => hne (by rw [e]))⟩
/-- A decoder's block a and two blocks of the call's own (b2: the result, b3: the record): what they hold. -/
structure RecI (v w0 wr : World) (a b2 b3 : Nat) (D R : Array Value) : Prop where
  dec : wr.heap[a]? = some (.cells D 44 (0, 0))
  box2 : wr.heap[b2]? = some (.cells #[.string ⟨#[]⟩, .int .i64 0, .int .i64 0, .int .i64 0, .string ⟨#[]⟩] 53 (0, 0))
  box3 : wr.heap[b3]? = some (.cells R 53 (0, 0))
  bel : Below v.heap.size v wr
  gr : w0.grownBy wr (some a)
  ha : v.heap.size ≤ a
  h2 : a < b2
  h3 : b2 < b3
  h0 : w0.heap.size ≤ b2
  hv : v.heap.size ≤ w0.heap.size
section
variable {v w0 wr W : World} {a b2 b3 : Nat} {D D' R : Array Value}
theorem RecI.below (h : RecI v w0 wr a b2 b3 D R) (hb : Below wr.heap.size wr W) : RecI v w0 W a b2 b3 D R :=
  ⟨blk_below h.dec hb, blk_below h.box2 hb, blk_below h.box3 hb, below_then h.bel h.bel.size hb, h.gr.trans (grown_of_below hb _), h.ha, h.h2, h.h3, h.h0, h.hv⟩
theorem RecI.step (h : RecI v w0 wr a b2 b3 D R) (hd : W.heap[a]? = some (.cells D' 44 (0, 0))) (hb : Below v.heap.size v W) (hg : wr.grownBy W (some a)) : RecI v w0 W a b2 b3 D' R :=
  ⟨hd, blk_grown h.box2 hg (fun e => by have := h.h2; injection e with e; omega), blk_grown h.box3 hg (fun e => by have := h.h2; have := h.h3; injection e with e; omega), hb, h.gr.trans hg, h.ha, h.h2, h.h3, h.h0, h.hv⟩
theorem RecI.drew (h : RecI v w0 wr a b2 b3 D R) : RecI v w0 wr.drew a b2 b3 D R := h.below (below_drew (Below.refl _ _))
theorem RecI.far (h : RecI v w0 wr a b2 b3 D R) (b i : Nat) (x : Value) (hb : w0.heap.size ≤ b) : w0.grownBy (wr.setCell ⟨b, i, none⟩ x) (some a) ∧ Below v.heap.size v (wr.setCell ⟨b, i, none⟩ x) := by
  have hv : v.heap.size ≤ b := Nat.le_trans h.hv hb
  exact ⟨⟨h.gr.os, h.gr.tape, h.gr.output, by simpa using h.gr.size, fun k hk hne => (Below.heap_setCell wr _ _ k (show k ≠ b by omega)).trans (h.gr.block k hk hne)⟩, h.bel.setCell hv _⟩
theorem RecI.put3 (h : RecI v w0 wr a b2 b3 D R) (i : Nat) (x : Value) {R' : Array Value} (e : R.setIfInBounds i x = R') : RecI v w0 (wr.setCell ⟨b3, i, none⟩ x) a b2 b3 D R' := by
  have h2 := h.h2; have h3 := h.h3; have h0 := h.h0
  obtain ⟨g1, g2⟩ := h.far b3 i x (by omega)
  exact ⟨blk_far h.dec (show a ≠ b3 by omega) x, blk_far h.box2 (show b2 ≠ b3 by omega) x, blk_put h.box3 i x e, g2, g1, h.ha, h2, h3, h0, h.hv⟩
theorem RecI.putd (h : RecI v w0 wr a b2 b3 D R) (i : Nat) (x : Value) (e : D.setIfInBounds i x = D') : RecI v w0 (wr.setCell ⟨a, i, none⟩ x) a b2 b3 D' R := by
  have h2 := h.h2; have h3 := h.h3
  exact h.step (blk_put h.dec i x e) (h.bel.setCell h.ha _) (grown_set wr a i x)
end
section
variable {v w0 wr : World} {a b2 b3 : Nat} {D R : Array Value}
theorem RecI.ret (h : RecI v w0 wr a b2 b3 D R) {S : Array Value} (hs : S.size = 5) : (wr.setRow b2 S).heap[b2]? = some (.cells S 53 (0, 0)) ∧ (wr.setRow b2 S).heap[a]? = some (.cells D 44 (0, 0)) ∧ Below v.heap.size v (wr.setRow b2 S) ∧ w0.grownBy (wr.setRow b2 S) (some a) := by
  have h2 := h.h2; have h0 := h.h0; have hv := h.hv
  refine ⟨setRow_heap _ _ _ _ _ _ h.box2, (setRow_other _ _ _ _ (by omega)).trans h.dec, ?_, ?_⟩
  · exact ⟨h.bel.os, h.bel.tape, h.bel.output, by rw [setRow_size]; exact h.bel.size, fun k hk => (setRow_other _ _ _ _ (by omega)).trans (h.bel.block k hk)⟩
  · exact ⟨h.gr.os, h.gr.tape, h.gr.output, by rw [setRow_size]; exact h.gr.size, fun k hk hne => (setRow_other _ _ _ _ (by omega)).trans (h.gr.block k hk hne)⟩
end

end Go.Proofs.YtcamchdenjpmhaaDoor.F
namespace Go.Proofs.YtcamchdenjpmhaaDoor.F
open Go Go.Shelf Go.RowKit Go.Proofs.YtcamchdenjpmhaaDoorW.PrintWords Go.Proofs.YtcamchdenjpmhaaDoorW.PrintLast Go.Proofs.YtcamchdenjpmhaaDoorW.PrintMore
attribute [local go_sem] max2_int min2_int max_two min_two max_three min_three max_four min_four   -- for this text's walks alone
set_option linter.unusedVariables false
set_option linter.unusedSimpArgs false

/-! ### impl_decoder_name: function 14 -/
def impl_decoder_name.f (k : Nat) (l0 : List Int) (p code : Int) : Option (ByteArray × Int × Int) :=
  if code = 0 then (impl_DecodeName.f k l0 p).bind fun t => some (t.1, if t.2.2 = 0 then t.2.1 else p, t.2.2) else some (⟨#[]⟩, p, code)
theorem impl_decoder_name.mono : ∀ a b c k, LeO (impl_decoder_name.f k a b c) (impl_decoder_name.f (k + 1) a b c) := by
  intro a b c k
  unfold impl_decoder_name.f
  exact LeO.ite (LeO.bind (impl_DecodeName.mono _ _ _) (fun _ => LeO.refl _)) (LeO.refl _)
set_option maxHeartbeats 4000000 in
set_option maxRecDepth 100000 in
theorem impl_decoder_name.calls (k : Nat) (v : World) (a : Nat) (A0 : Option Addr) (c0 : Nat) (l0 : List Int) (p code : Int) (r1 : ByteArray) (r2 r3 : Int) (w : World) (hr0 : Kd.C (Kd.int .u8) v A0 l0.length l0) (hc0 : l0.length ≤ c0) (hB : Below v.heap.size v w) (ha : v.heap.size ≤ a)
    (hD : w.heap[a]? = some (.cells #[.slice A0 l0.length c0, .int .i64 p, .int .i64 code] 44 (0, 0))) (h : impl_decoder_name.f k l0 p code = some (r1, r2, r3)) :
    Calls Tryd.prog 14 #[.pointer (some ⟨a, 0, none⟩)] w fun e w' => e = .returned (.string r1) ∧ w'.heap[a]? = some (.cells #[.slice A0 l0.length c0, .int .i64 r2, .int .i64 r3] 44 (0, 0)) ∧ Below v.heap.size v w' ∧ w.grownBy w' (some a) := by
  have HR := Aside0.mk hr0
  have HB := Aside0.mk hB
  have HD := Aside0.mk hD
  have k0 : w.cell? ⟨a, 0, none⟩ = some (.slice A0 l0.length c0) := (blk_cell hD 0).trans rfl
  have k1 : w.cell? ⟨a, 1, none⟩ = some (.int .i64 p) := (blk_cell hD 1).trans rfl
  have k2 : w.cell? ⟨a, 2, none⟩ = some (.int .i64 code) := (blk_cell hD 2).trans rfl
  clear hr0 hB hD
  unfold impl_decoder_name.f at h
  by_cases hc : code = 0
  · rw [if_pos hc] at h
    subst hc
    obtain ⟨⟨t1, t2, t3⟩, A1, h⟩ := Option.bind_eq_some_iff.mp h
    have H1 := Aside0.mk A1
    simp only [Option.some.injEq, Prod.mk.injEq] at h
    obtain ⟨rfl, h2, rfl⟩ := h
    have H2 := Aside0.mk h2
    clear h2 A1
    go_enter Tryd.func14, Tryd.ntmps14
    go_upto_region 3 with fail
    refine start_ (n := 16) (S := fun w' => w'.cell? ⟨a, 0, none⟩ = some (.slice A0 l0.length c0) ∧ w'.cell? ⟨a, 1, none⟩ = some (.int .i64 p)) (ds := []) #[false, false, false, false, false, false, false, false, false, false, false, false, false, false, false, false] (by kernel_rfl) rfl rfl ⟨k0, k1⟩ (fun hHeld => ?_)
    refine pure_ (i := 0) (N := some 12) (v := ?_) (a' := ?_) #[true, false, false, false, false, false, false, false, false, false, false, false, false, false, false, false] rfl rfl (by kernel_rfl) (fun _ _ _ h => h) (Or.inl ⟨by rfl, ?_⟩) ?_ ?_
    rotate_left
    · intro w'
      go_simp
      with_reducible rfl
    rotate_left
    · simp only [Act.put, List.setIfInBounds_toArray, List.set_cons_zero, List.set_cons_succ, i64_w, i32_w]
      rfl
    refine pure_ (i := 1) (N := some 13) (v := ?_) (a' := ?_) #[true, true, false, false, false, false, false, false, false, false, false, false, false, false, false, false] rfl rfl (by kernel_rfl) (fun _ _ _ h => h) (Or.inl ⟨by rfl, ?_⟩) ?_ ?_
    rotate_left
    · intro w'
      go_simp
      with_reducible rfl
    rotate_left
    · simp only [Act.put, List.setIfInBounds_toArray, List.set_cons_zero, List.set_cons_succ, i64_w, i32_w]
      rfl
    refine pure_ (i := 2) (N := some 14) (v := ?_) (a' := ?_) #[true, true, true, false, false, false, false, false, false, false, false, false, false, false, false, false] rfl rfl (by kernel_rfl) (fun _ _ _ h => h) (Or.inl ⟨by rfl, ?_⟩) ?_ ?_
    rotate_left
    · intro w'
      go_simp
      with_reducible rfl
    rotate_left
    · simp only [Act.put, List.setIfInBounds_toArray, List.set_cons_zero, List.set_cons_succ, i64_w, i32_w]
      rfl
    refine pure_ (i := 4) (N := some 16) (v := ?_) (a' := ?_) #[true, true, true, false, true, false, false, false, false, false, false, false, false, false, false, false] rfl rfl (by kernel_rfl) (fun _ _ _ h => h) (Or.inl ⟨by rfl, ?_⟩) ?_ ?_
    rotate_left
    · intro w'
      go_simp
      with_reducible rfl
    rotate_left
    · simp only [Act.put, List.setIfInBounds_toArray, List.set_cons_zero, List.set_cons_succ, i64_w, i32_w]
      rfl
    refine pure_ (i := 5) (N := some 17) (v := ?_) (a' := ?_) #[true, true, true, false, true, true, false, false, false, false, false, false, false, false, false, false] rfl rfl (by kernel_rfl) (fun _ _ _ h => h) (Or.inl ⟨by rfl, ?_⟩) ?_ ?_
    rotate_left
    · intro w'
      go_simp
      with_reducible rfl
    rotate_left
    · simp only [Act.put, List.setIfInBounds_toArray, List.set_cons_zero, List.set_cons_succ, i64_w, i32_w]
      rfl
    refine pure_ (i := 6) (N := some 18) (v := ?_) (a' := ?_) #[true, true, true, false, true, true, true, false, false, false, false, false, false, false, false, false] rfl rfl (by kernel_rfl) (fun _ _ _ h => h) (Or.inl ⟨by rfl, ?_⟩) ?_ ?_
    rotate_left
    · intro w'
      go_simp
      with_reducible rfl
    rotate_left
    · simp only [Act.put, List.setIfInBounds_toArray, List.set_cons_zero, List.set_cons_succ, i64_w, i32_w]
      rfl
    refine take_ (i := 3) (N := some 15) (v := ?_) (a' := ?_) #[true, true, true, true, true, true, true, false, false, false, false, false, false, false, false, false] rfl rfl (by kernel_rfl) (fun _ _ _ h => h) (Or.inl ⟨by rfl, ?_⟩) hHeld ?_ ?_
    rotate_left
    · rintro w' ⟨s0, s1⟩
      go_simp
      with_reducible rfl
    rotate_left
    · simp only [Act.put, List.setIfInBounds_toArray, List.set_cons_zero, List.set_cons_succ, i64_w, i32_w]
      rfl
    refine take_ (i := 7) (N := some 19) (v := ?_) (a' := ?_) #[true, true, true, true, true, true, true, true, false, false, false, false, false, false, false, false] rfl rfl (by kernel_rfl) (fun _ _ _ h => h) (Or.inl ⟨by rfl, ?_⟩) hHeld ?_ ?_
    rotate_left
    · rintro w' ⟨s0, s1⟩
      go_simp
      with_reducible rfl
    rotate_left
    · simp only [Act.put, List.setIfInBounds_toArray, List.set_cons_zero, List.set_cons_succ, i64_w, i32_w]
      rfl
    refine one_ (i := 8) (N := some 20) #[true, true, true, true, true, true, true, true, true, false, false, false, false, false, false, false] rfl rfl (by kernel_rfl) (by decide) (fun K hK => ?_)
    refine goes_ Tryd.func30 (by kernel_rfl) rfl #[.slice A0 l0.length c0, .int .i64 p] (by rfl) rfl rfl (by simp only [List.map_toArray, List.map_cons, List.map_nil]; rfl) ?_
    with_reducible refine (impl_DecodeName.calls k A0 c0 l0 p _ _ _ _ (Kd.C_below HR.out (below_drew HB.out)) hc0 H1.out).mono ?_
    rintro e w3 ⟨rfl, hb⟩
    refine ⟨_, rfl, ?_⟩
    have HB3 := Aside0.mk (below_then (below_drew HB.out) HB.out.size hb)
    have HD3 := Aside0.mk (blk_below (w := w.drew) HD.out hb)
    have HG3 := Aside0.mk (grown_of_below (below_step (below_drew (Below.refl _ _)) hb) (some a))
    refine hK.out _ _ ⟨((hb.cell (World.block_lt_of_cell? _ _ k0)).trans k0), ((hb.cell (World.block_lt_of_cell? _ _ k1)).trans k1)⟩ (fun hHeld => ?_)
    clear hK K
    refine norm_ (a' := ?_) ?_ ?_
    rotate_left
    · show Act.put _ (some 20) _ = _
      simp only [Act.put, List.setIfInBounds_toArray, List.set_cons_zero, List.set_cons_succ, i64_w, i32_w]
      rfl
    refine pure_ (i := 9) (N := some 11) (v := ?_) (a' := ?_) #[true, true, true, true, true, true, true, true, true, true, false, false, false, false, false, false] rfl rfl (by kernel_rfl) (fun _ _ _ h => h) (Or.inl ⟨by rfl, ?_⟩) ?_ ?_
    rotate_left
    · intro w'
      go_simp
      with_reducible rfl
    rotate_left
    · simp only [Act.put, List.setIfInBounds_toArray, List.set_cons_zero, List.set_cons_succ, i64_w, i32_w]
      rfl
    refine pure_ (i := 10) (N := some 21) (v := ?_) (a' := ?_) #[true, true, true, true, true, true, true, true, true, true, true, false, false, false, false, false] rfl rfl (by kernel_rfl) (fun _ _ _ h => h) (Or.inl ⟨by rfl, ?_⟩) ?_ ?_
    rotate_left
    · intro w'
      go_simp
      with_reducible rfl
    rotate_left
    · simp only [Act.put, List.setIfInBounds_toArray, List.set_cons_zero, List.set_cons_succ, i64_w, i32_w]
      rfl
    refine pure_ (i := 11) (N := some 22) (v := ?_) (a' := ?_) #[true, true, true, true, true, true, true, true, true, true, true, true, false, false, false, false] rfl rfl (by kernel_rfl) (fun _ _ _ h => h) (Or.inl ⟨by rfl, ?_⟩) ?_ ?_
    rotate_left
    · intro w'
      go_simp
      with_reducible rfl
    rotate_left
    · simp only [Act.put, List.setIfInBounds_toArray, List.set_cons_zero, List.set_cons_succ, i64_w, i32_w]
      rfl
    refine pure_ (i := 12) (N := some 23) (v := ?_) (a' := ?_) #[true, true, true, true, true, true, true, true, true, true, true, true, true, false, false, false] rfl rfl (by kernel_rfl) (fun _ _ _ h => h) (Or.inl ⟨by rfl, ?_⟩) ?_ ?_
    rotate_left
    · intro w'
      go_simp
      with_reducible rfl
    rotate_left
    · simp only [Act.put, List.setIfInBounds_toArray, List.set_cons_zero, List.set_cons_succ, i64_w, i32_w]
      rfl
    refine pure_ (i := 13) (N := some 3) (v := ?_) (a' := ?_) #[true, true, true, true, true, true, true, true, true, true, true, true, true, true, false, false] rfl rfl (by kernel_rfl) (fun _ _ _ h => h) (Or.inl ⟨by rfl, ?_⟩) ?_ ?_
    rotate_left
    · intro w'
      go_simp
      with_reducible rfl
    rotate_left
    · simp only [Act.put, List.setIfInBounds_toArray, List.set_cons_zero, List.set_cons_succ, i64_w, i32_w]
      rfl
    refine pure_ (i := 14) (N := some 4) (v := ?_) (a' := ?_) #[true, true, true, true, true, true, true, true, true, true, true, true, true, true, true, false] rfl rfl (by kernel_rfl) (fun _ _ _ h => h) (Or.inl ⟨by rfl, ?_⟩) ?_ ?_
    rotate_left
    · intro w'
      go_simp
      with_reducible rfl
    rotate_left
    · simp only [Act.put, List.setIfInBounds_toArray, List.set_cons_zero, List.set_cons_succ, i64_w, i32_w]
      rfl
    refine pure_ (i := 15) (N := some 5) (v := ?_) (a' := ?_) #[true, true, true, true, true, true, true, true, true, true, true, true, true, true, true, true] rfl rfl (by kernel_rfl) (fun _ _ _ h => h) (Or.inl ⟨by rfl, ?_⟩) ?_ ?_
    rotate_left
    · intro w'
      go_simp
      with_reducible rfl
    rotate_left
    · simp only [Act.put, List.setIfInBounds_toArray, List.set_cons_zero, List.set_cons_succ, i64_w, i32_w]
      rfl
    refine done_ (by kernel_rfl) ?_

    have HL := lt_of_block HD3.out
    have m1 : w3.cell? ⟨a, 1, none⟩ = some (.int .i64 p) := (blk_cell HD3.out 1).trans rfl
    have m2 : w3.cell? ⟨a, 2, none⟩ = some (.int .i64 0) := (blk_cell HD3.out 2).trans rfl
    have f2 : w3.frozen? ⟨a, 2, none⟩ = false := blk_frozen HD3.out 2
    have HP := Aside0.mk (blk_put HD3.out 2 (.int .i64 t3) (cs' := #[.slice A0 l0.length c0, .int .i64 p, .int .i64 t3]) rfl)
    have f1 : (w3.setCell ⟨a, 2, none⟩ (.int .i64 t3)).frozen? ⟨a, 1, none⟩ = false := blk_frozen HP.out 1
    have n1 : (w3.setCell ⟨a, 2, none⟩ (.int .i64 t3)).cell? ⟨a, 1, none⟩ = some (.int .i64 p) := (blk_cell HP.out 1).trans rfl
    clear k0 k1 k2 hb HL
    by_cases h3 : t3 = 0
    · have q3 : (t3 == 0) = true := beq_iff_eq.mpr h3
      have H2' := H2.out
      rw [if_pos h3] at H2'
      clear h3
      subst H2'
      go_wp2
      go_ret
      exact ⟨rfl, blk_put HP.out 1 _ rfl, (HB3.out.setCell ha _).setCell ha _, (HG3.out.trans (grown_set _ _ _ _)).trans (grown_set _ _ _ _)⟩
    · have q3 : (t3 == 0) = false := beq_eq_false_iff_ne.mpr h3
      have H2' := H2.out
      rw [if_neg h3] at H2'
      clear h3
      subst H2'
      go_wp2
      go_ret
      exact ⟨rfl, HP.out, HB3.out.setCell ha _, HG3.out.trans (grown_set _ _ _ _)⟩
  · rw [if_neg hc] at h
    simp only [Option.some.injEq, Prod.mk.injEq] at h
    obtain ⟨rfl, rfl, rfl⟩ := h
    have q3 : (code != 0) = true := bne_iff_ne.mpr hc
    have q4 : (code == 0) = false := beq_eq_false_iff_ne.mpr hc
    clear hc
    go_enter Tryd.func14, Tryd.ntmps14
    go_wp2
    go_ret
    exact ⟨rfl, HD.out, HB.out, World.grownBy.refl w _⟩

end Go.Proofs.YtcamchdenjpmhaaDoor.F
namespace Go.Proofs.YtcamchdenjpmhaaDoor.F
open Go Go.Shelf Go.RowKit Go.Proofs.YtcamchdenjpmhaaDoorW.PrintWords Go.Proofs.YtcamchdenjpmhaaDoorW.PrintLast Go.Proofs.YtcamchdenjpmhaaDoorW.PrintMore
attribute [local go_sem] max2_int min2_int max_two min_two max_three min_three max_four min_four   -- for this text's walks alone
set_option linter.unusedVariables false
set_option linter.unusedSimpArgs false

/-! ### impl_decoder_take: function 16 -/
def impl_decoder_take.f (l0 : List Int) (p code n : Int) : Option (ByteArray × Int × Int) :=
  if 0 ≤ n ∧ n ≤ 1000000 ∧ 0 ≤ p ∧ p ≤ 1000000 then
    (if code = 0 ∧ p + n ≤ (l0.length : Int) then some (strOfNums ((l0.take (p + n).toNat).drop p.toNat), p + n, 0)
     else some (strOfNums (List.replicate n.toNat 0), p, if code = 0 then 8 else code)) else none
set_option maxHeartbeats 4000000 in
set_option maxRecDepth 100000 in
theorem impl_decoder_take.calls (v : World) (a : Nat) (A0 : Option Addr) (c0 : Nat) (l0 : List Int) (p code n : Int) (r1 : ByteArray) (r2 r3 : Int) (w : World) (hr0 : Kd.C (Kd.int .u8) v A0 l0.length l0) (hc0 : l0.length ≤ c0) (hB : Below v.heap.size v w) (ha : v.heap.size ≤ a)
    (hD : w.heap[a]? = some (.cells #[.slice A0 l0.length c0, .int .i64 p, .int .i64 code] 44 (0, 0))) (h : impl_decoder_take.f l0 p code n = some (r1, r2, r3)) :
    Calls Tryd.prog 16 #[.pointer (some ⟨a, 0, none⟩), .int .i64 n] w fun e w' => e = .returned (.string r1) ∧ w'.heap[a]? = some (.cells #[.slice A0 l0.length c0, .int .i64 r2, .int .i64 r3] 44 (0, 0)) ∧ Below v.heap.size v w' ∧ w.grownBy w' (some a) := by
  have HR := Aside0.mk hr0
  have HB := Aside0.mk hB
  have HD := Aside0.mk hD
  have k0 : w.cell? ⟨a, 0, none⟩ = some (.slice A0 l0.length c0) := (blk_cell hD 0).trans rfl
  have k1 : w.cell? ⟨a, 1, none⟩ = some (.int .i64 p) := (blk_cell hD 1).trans rfl
  have k2 : w.cell? ⟨a, 2, none⟩ = some (.int .i64 code) := (blk_cell hD 2).trans rfl
  have f2 : w.frozen? ⟨a, 2, none⟩ = false := blk_frozen hD 2
  have f1 : w.frozen? ⟨a, 1, none⟩ = false := blk_frozen hD 1
  clear hr0 hB hD
  unfold impl_decoder_take.f at h
  split at h
  case isFalse => cases h
  case isTrue hn =>
  obtain ⟨hn0, hn1, hp0, hp1⟩ := hn
  obtain ⟨m, rfl⟩ := Int.eq_ofNat_of_zero_le hn0
  obtain ⟨q, rfl⟩ := Int.eq_ofNat_of_zero_le hp0
  have e1 : IntKind.i64.wrap ((q : Int) + (m : Int)) = (q : Int) + (m : Int) := IntWalk.i64_in _ ⟨by omega, by omega⟩
  by_cases hc : code = 0
  · subst hc
    by_cases hl : (q : Int) + (m : Int) ≤ (l0.length : Int)
    · rw [if_pos ⟨rfl, hl⟩] at h
      simp only [Option.some.injEq, Prod.mk.injEq] at h
      obtain ⟨h1, rfl, rfl⟩ := h
      replace h1 := Aside0.mk h1
      have d1 : decide ((l0.length : Int) < (q : Int) + (m : Int)) = false := decide_eq_false (by omega)
      have HP := Aside0.mk (fun n => blk_put (blk_drewN HD.out n) 1 (.int .i64 ((q : Int) + (m : Int))) (cs' := #[.slice A0 l0.length c0, .int .i64 ((q : Int) + (m : Int)), .int .i64 0]) rfl)
      go_enter Tryd.func16, Tryd.ntmps16
      go_upto_region 1 with fail
      go_quiet (fail)
      go_upto_region 6 with fail
      have j0 : ((w.drewN nq).setCell ⟨a, 1, none⟩ (.int .i64 ((q : Int) + (m : Int)))).cell? ⟨a, 0, none⟩ = some (.slice A0 l0.length c0) := (blk_cell (HP.out nq) 0).trans rfl
      have j1 : ((w.drewN nq).setCell ⟨a, 1, none⟩ (.int .i64 ((q : Int) + (m : Int)))).cell? ⟨a, 1, none⟩ = some (.int .i64 ((q : Int) + (m : Int))) := (blk_cell (HP.out nq) 1).trans rfl
      have HG := Aside0.mk (World.grownBy.trans (b := w.drewN nq) (grown_of_below (pw_below_drewN (Below.refl _ _) nq) (some a)) (grown_set (w.drewN nq) a 1 (.int .i64 ((q : Int) + (m : Int)))))
      have HB1 := Aside0.mk ((pw_below_drewN HB.out nq).setCell (show v.heap.size ≤ (⟨a, 1, none⟩ : Addr).block from ha) (.int .i64 ((q : Int) + (m : Int))))
      have HP1 := Aside0.mk (HP.out nq)
      clear k0 k1 k2 f1 f2 HP d1
      generalize (w.drewN nq).setCell ⟨a, 1, none⟩ (.int .i64 ((q : Int) + (m : Int))) = W at *
      have HR1 := Aside0.mk (Kd.C_below HR.out HB1.out)
      obtain ⟨i0, hi0, _, hsz, _⟩ := info_parts info5
      obtain ⟨A', hcut, hA, hC⟩ := print_mid_of (P := Tryd.prog) (Value.int .u8) 0 22 5 .i64 .i64 Tryd.underlying22 hi0 hsz A0 c0 l0 (q : Int) ((q : Int) + (m : Int)) (by omega) (by omega) hl hc0
      have e3 : True → wrap64 (q : Int) = (q : Int) := fun _ => by unfold wrap64; omega
      have e2 : IntKind.i64.wrap ((q : Int) + (m : Int) - (m : Int)) = (q : Int) := by rw [IntWalk.i64_in _ ⟨by omega, by omega⟩]; omega
      have hcv2 := string_of_reads (P := Tryd.prog) (c := c0 - q) Tryd.underlying22 Tryd.underlying5 Tryd.underlying9 (hA W.drew (Kd.reads_of_C (enc := Value.int .u8) (d := (0 : Int)) (h1 := fun _ => rfl) HR1.out))
      rw [h1.out] at hcv2
      generalize (List.drop (q : Int).toNat (List.take ((q : Int) + (m : Int)).toNat l0)).length = nn at *
      refine start_ (n := 17) (S := fun w' => w'.cell? ⟨a, 0, none⟩ = some (.slice A0 l0.length c0) ∧ w'.cell? ⟨a, 1, none⟩ = some (.int .i64 ((q : Int) + (m : Int))) ∧ (convert 22 9 (.slice A' nn (c0 - q))).run Tryd.prog w' = .ok (.string r1) w') (ds := []) #[false, false, false, false, false, false, false, false, false, false, false, false, false, false, false, false, false] (by kernel_rfl) rfl rfl ⟨j0, j1, hcv2⟩ (fun hHeld => ?_)
      refine pure_ (i := 0) (N := some 43) (v := ?_) (a' := ?_) #[true, false, false, false, false, false, false, false, false, false, false, false, false, false, false, false, false] rfl rfl (by kernel_rfl) (fun _ _ _ h => h) (Or.inl ⟨by rfl, ?_⟩) ?_ ?_
      rotate_left
      · intro w'
        go_simp
        with_reducible rfl
      rotate_left
      · simp only [Act.put, List.setIfInBounds_toArray, List.set_cons_zero, List.set_cons_succ, i64_w, i32_w]
        rfl
      refine pure_ (i := 1) (N := some 44) (v := ?_) (a' := ?_) #[true, true, false, false, false, false, false, false, false, false, false, false, false, false, false, false, false] rfl rfl (by kernel_rfl) (fun _ _ _ h => h) (Or.inl ⟨by rfl, ?_⟩) ?_ ?_
      rotate_left
      · intro w'
        go_simp
        with_reducible rfl
      rotate_left
      · simp only [Act.put, List.setIfInBounds_toArray, List.set_cons_zero, List.set_cons_succ, i64_w, i32_w]
        rfl
      refine pure_ (i := 2) (N := some 45) (v := ?_) (a' := ?_) #[true, true, true, false, false, false, false, false, false, false, false, false, false, false, false, false, false] rfl rfl (by kernel_rfl) (fun _ _ _ h => h) (Or.inl ⟨by rfl, ?_⟩) ?_ ?_
      rotate_left
      · intro w'
        go_simp
        with_reducible rfl
      rotate_left
      · simp only [Act.put, List.setIfInBounds_toArray, List.set_cons_zero, List.set_cons_succ, i64_w, i32_w]
        rfl
      refine pure_ (i := 4) (N := some 47) (v := ?_) (a' := ?_) #[true, true, true, false, true, false, false, false, false, false, false, false, false, false, false, false, false] rfl rfl (by kernel_rfl) (fun _ _ _ h => h) (Or.inl ⟨by rfl, ?_⟩) ?_ ?_
      rotate_left
      · intro w'
        go_simp
        with_reducible rfl
      rotate_left
      · simp only [Act.put, List.setIfInBounds_toArray, List.set_cons_zero, List.set_cons_succ, i64_w, i32_w]
        rfl
      refine pure_ (i := 5) (N := some 48) (v := ?_) (a' := ?_) #[true, true, true, false, true, true, false, false, false, false, false, false, false, false, false, false, false] rfl rfl (by kernel_rfl) (fun _ _ _ h => h) (Or.inl ⟨by rfl, ?_⟩) ?_ ?_
      rotate_left
      · intro w'
        go_simp
        with_reducible rfl
      rotate_left
      · simp only [Act.put, List.setIfInBounds_toArray, List.set_cons_zero, List.set_cons_succ, i64_w, i32_w]
        rfl
      refine pure_ (i := 6) (N := some 49) (v := ?_) (a' := ?_) #[true, true, true, false, true, true, true, false, false, false, false, false, false, false, false, false, false] rfl rfl (by kernel_rfl) (fun _ _ _ h => h) (Or.inl ⟨by rfl, ?_⟩) ?_ ?_
      rotate_left
      · intro w'
        go_simp
        with_reducible rfl
      rotate_left
      · simp only [Act.put, List.setIfInBounds_toArray, List.set_cons_zero, List.set_cons_succ, i64_w, i32_w]
        rfl
      refine pure_ (i := 8) (N := some 51) (v := ?_) (a' := ?_) #[true, true, true, false, true, true, true, false, true, false, false, false, false, false, false, false, false] rfl rfl (by kernel_rfl) (fun _ _ _ h => h) (Or.inl ⟨by rfl, ?_⟩) ?_ ?_
      rotate_left
      · intro w'
        go_simp
        with_reducible rfl
      rotate_left
      · simp only [Act.put, List.setIfInBounds_toArray, List.set_cons_zero, List.set_cons_succ, i64_w, i32_w]
        rfl
      refine pure_ (i := 10) (N := some 53) (v := ?_) (a' := ?_) #[true, true, true, false, true, true, true, false, true, false, true, false, false, false, false, false, false] rfl rfl (by kernel_rfl) (fun _ _ _ h => h) (Or.inl ⟨by rfl, ?_⟩) ?_ ?_
      rotate_left
      · intro w'
        go_simp
        with_reducible rfl
      rotate_left
      · simp only [Act.put, List.setIfInBounds_toArray, List.set_cons_zero, List.set_cons_succ, i64_w, i32_w]
        rfl
      refine pure_ (i := 11) (N := some 54) (v := ?_) (a' := ?_) #[true, true, true, false, true, true, true, false, true, false, true, true, false, false, false, false, false] rfl rfl (by kernel_rfl) (fun _ _ _ h => h) (Or.inl ⟨by rfl, ?_⟩) ?_ ?_
      rotate_left
      · intro w'
        go_simp
        with_reducible rfl
      rotate_left
      · simp only [Act.put, List.setIfInBounds_toArray, List.set_cons_zero, List.set_cons_succ, i64_w, i32_w]
        rfl
      refine pure_ (i := 12) (N := some 55) (v := ?_) (a' := ?_) #[true, true, true, false, true, true, true, false, true, false, true, true, true, false, false, false, false] rfl rfl (by kernel_rfl) (fun _ _ _ h => h) (Or.inl ⟨by rfl, ?_⟩) ?_ ?_
      rotate_left
      · intro w'
        go_simp
        with_reducible rfl
      rotate_left
      · simp only [Act.put, List.setIfInBounds_toArray, List.set_cons_zero, List.set_cons_succ, i64_w, i32_w]
        rfl
      refine take_ (i := 3) (N := some 46) (v := ?_) (a' := ?_) #[true, true, true, true, true, true, true, false, true, false, true, true, true, false, false, false, false] rfl rfl (by kernel_rfl) (fun _ _ _ h => h) (Or.inl ⟨by rfl, ?_⟩) hHeld ?_ ?_
      rotate_left
      · rintro w' ⟨s0, s1, s2⟩
        go_simp
        with_reducible rfl
      rotate_left
      · simp only [Act.put, List.setIfInBounds_toArray, List.set_cons_zero, List.set_cons_succ, i64_w, i32_w]
        rfl
      refine take_ (i := 7) (N := some 50) (v := ?_) (a' := ?_) #[true, true, true, true, true, true, true, true, true, false, true, true, true, false, false, false, false] rfl rfl (by kernel_rfl) (fun _ _ _ h => h) (Or.inl ⟨by rfl, ?_⟩) hHeld ?_ ?_
      rotate_left
      · rintro w' ⟨s0, s1, s2⟩
        go_simp
        with_reducible rfl
      rotate_left
      · simp only [Act.put, List.setIfInBounds_toArray, List.set_cons_zero, List.set_cons_succ, i64_w, i32_w]
        rfl
      refine pure_ (i := 9) (N := some 52) (v := ?_) (a' := ?_) #[true, true, true, true, true, true, true, true, true, true, true, true, true, false, false, false, false] rfl rfl (by kernel_rfl) (fun _ _ _ h => h) (Or.inl ⟨by rfl, ?_⟩) ?_ ?_
      rotate_left
      · intro w'
        go_simp
        with_reducible rfl
      rotate_left
      · simp only [Act.put, List.setIfInBounds_toArray, List.set_cons_zero, List.set_cons_succ, i64_w, i32_w]
        rfl
      refine take_ (i := 13) (N := some 56) (v := ?_) (a' := ?_) #[true, true, true, true, true, true, true, true, true, true, true, true, true, true, false, false, false] rfl rfl (by kernel_rfl) (fun _ _ _ h => h) (Or.inl ⟨by rfl, ?_⟩) hHeld ?_ ?_
      rotate_left
      · rintro w' ⟨s0, s1, s2⟩
        go_simp
        with_reducible rfl
      rotate_left
      · simp only [Act.put, List.setIfInBounds_toArray, List.set_cons_zero, List.set_cons_succ, i64_w, i32_w]
        rfl
      refine pure_ (i := 14) (N := some 57) (v := ?_) (a' := ?_) #[true, true, true, true, true, true, true, true, true, true, true, true, true, true, true, false, false] rfl rfl (by kernel_rfl) (fun _ _ _ h => h) (Or.inl ⟨by rfl, ?_⟩) ?_ ?_
      rotate_left
      · intro w'
        go_simp
        with_reducible rfl
      rotate_left
      · simp only [Act.put, List.setIfInBounds_toArray, List.set_cons_zero, List.set_cons_succ, i64_w, i32_w]
        rfl
      refine take_ (i := 15) (N := some 58) (v := ?_) (a' := ?_) #[true, true, true, true, true, true, true, true, true, true, true, true, true, true, true, true, false] rfl rfl (by kernel_rfl) (fun _ _ _ h => h) (Or.inl ⟨by rfl, ?_⟩) hHeld ?_ ?_
      rotate_left
      · rintro w' ⟨s0, s1, s2⟩
        go_simp
        with_reducible rfl
      rotate_left
      · simp only [Act.put, List.setIfInBounds_toArray, List.set_cons_zero, List.set_cons_succ, i64_w, i32_w]
        rfl
      refine pure_ (i := 16) (N := some 4) (v := ?_) (a' := ?_) #[true, true, true, true, true, true, true, true, true, true, true, true, true, true, true, true, true] rfl rfl (by kernel_rfl) (fun _ _ _ h => h) (Or.inl ⟨by rfl, ?_⟩) ?_ ?_
      rotate_left
      · intro w'
        go_simp
        with_reducible rfl
      rotate_left
      · simp only [Act.put, List.setIfInBounds_toArray, List.set_cons_zero, List.set_cons_succ, i64_w, i32_w]
        rfl
      refine done_ (by kernel_rfl) ?_

      go_wp2
      go_ret
      exact ⟨rfl, blk_drew HP1.out, below_drew HB1.out, World.grownBy.trans (b := W) HG.out (grown_of_below (below_drew (Below.refl _ _)) _)⟩
    · rw [if_neg (fun h => hl h.2), if_pos rfl] at h
      simp only [Option.some.injEq, Prod.mk.injEq] at h
      obtain ⟨h1, rfl, rfl⟩ := h
      replace h1 := Aside0.mk h1
      have d1 : decide ((l0.length : Int) < (q : Int) + (m : Int)) = true := decide_eq_true (by omega)
      have hmk := print_make (P := Tryd.prog) 22 5 .u8 1 Tryd.underlying22 (by kernel_rfl) (by decide) m (by omega)
      go_enter Tryd.func16, Tryd.ntmps16
      go_upto_region 1 with fail
      go_quiet (fail)
      have hcv : ∀ W : World, W.heap.size = w.heap.size → (convert 22 9 (.slice (some ⟨w.heap.size, 0, none⟩) m m)).run Tryd.prog (W.alloc (.cells (madeCells #[.int .u8 0] m) 5)) = .ok (.string (strOfNums (List.replicate m 0))) (W.alloc (.cells (madeCells #[.int .u8 0] m) 5)) := fun W hW => hW ▸ own_string (P := Tryd.prog) Tryd.underlying22 Tryd.underlying5 Tryd.underlying9 (own_made W 0 5 .u8 m (Nat.zero_le _) (by omega))
      have hz1 : ∀ n, (w.drewN n).heap.size = w.heap.size := fun n => rfl
      go_wp2
      go_ret
      have hst := grown_set (w.drewN nq) a 2 (.int .i64 8)
      refine ⟨by rw [← h1.out]; rfl, blk_alloc (blk_put (blk_drewN HD.out nq) 2 _ rfl) _, ((pw_below_drewN HB.out nq).setCell ha _).alloc (by simpa using HB.out.size) _, World.grownBy.trans (b := w.drewN nq) (grown_of_below (pw_below_drewN (Below.refl _ _) nq) _) (hst.trans (World.grownBy_alloc _ _ _))⟩
  · rw [if_neg (fun h => hc h.1), if_neg hc] at h
    simp only [Option.some.injEq, Prod.mk.injEq] at h
    obtain ⟨h1, rfl, rfl⟩ := h
    replace h1 := Aside0.mk h1
    have d1 : (code == 0) = false := beq_eq_false_iff_ne.mpr hc
    have d2 : (code != 0) = true := bne_iff_ne.mpr hc
    clear hc
    have hmk := print_make (P := Tryd.prog) 22 5 .u8 1 Tryd.underlying22 (by kernel_rfl) (by decide) m (by omega)
    have hcv : ∀ W : World, W.heap.size = w.heap.size → (convert 22 9 (.slice (some ⟨w.heap.size, 0, none⟩) m m)).run Tryd.prog (W.alloc (.cells (madeCells #[.int .u8 0] m) 5)) = .ok (.string (strOfNums (List.replicate m 0))) (W.alloc (.cells (madeCells #[.int .u8 0] m) 5)) := fun W hW => hW ▸ own_string (P := Tryd.prog) Tryd.underlying22 Tryd.underlying5 Tryd.underlying9 (own_made W 0 5 .u8 m (Nat.zero_le _) (by omega))
    go_enter Tryd.func16, Tryd.ntmps16
    go_upto_region 1 with fail
    go_quiet (fail)
    have hz1 : ∀ n, (w.drewN n).heap.size = w.heap.size := fun n => rfl
    have hcw := fun n => hcv (w.drewN n) rfl
    clear hcv
    go_wp2
    go_ret
    refine ⟨by rw [← h1.out]; rfl, blk_alloc (w := w.drewN nq) (blk_drewN HD.out nq) _, (pw_below_drewN HB.out nq).alloc (by simpa using HB.out.size) _, World.grownBy.trans (b := w.drewN nq) (grown_of_below (pw_below_drewN (Below.refl _ _) nq) _) (World.grownBy_alloc _ _ _)⟩

end Go.Proofs.YtcamchdenjpmhaaDoor.F
namespace Go.Proofs.YtcamchdenjpmhaaDoor.F
open Go Go.Shelf Go.RowKit Go.Proofs.YtcamchdenjpmhaaDoorW.PrintWords Go.Proofs.YtcamchdenjpmhaaDoorW.PrintLast Go.Proofs.YtcamchdenjpmhaaDoorW.PrintMore
attribute [local go_sem] max2_int min2_int max_two min_two max_three min_three max_four min_four   -- for this text's walks alone
set_option linter.unusedVariables false
set_option linter.unusedSimpArgs false

/-! ### stands 16 -/
-- stands: binary.BigEndian.Uint32 of four bytes
/-- The number as the code makes it. -/
def xu32 (b0 b1 b2 b3 : Int) : Int := Go.bits .or .u32 (Go.bits .or .u32 (Go.bits .or .u32 (b3 % 4294967296) (b2 % 4294967296 * 256 % 4294967296)) (b1 % 4294967296 * 65536 % 4294967296)) (b0 % 4294967296 * 16777216 % 4294967296)
set_option maxHeartbeats 4000000 in
set_option maxRecDepth 100000 in
theorem xUint32.calls (g cap : Nat) (b0 b1 b2 b3 : Int) (w : World) (h0 : w.cell? ⟨g, 0, none⟩ = some (.int .u8 b0)) (h1 : w.cell? ⟨g, 1, none⟩ = some (.int .u8 b1)) (h2 : w.cell? ⟨g, 2, none⟩ = some (.int .u8 b2)) (h3 : w.cell? ⟨g, 3, none⟩ = some (.int .u8 b3)) :
    Calls Tryd.prog 40 #[.agg #[], .slice (some ⟨g, 0, none⟩) 4 cap] w fun e w' => e = .returned (.int .u32 (xu32 b0 b1 b2 b3)) ∧ Below w.heap.size w w' := by
  have hg : g < w.heap.size := by
    by_cases h : g < w.heap.size
    · exact h
    · have hn : w.heap[g]? = none := Array.getElem?_eq_none (by omega)
      simp [World.cell?, hn] at h0
  have q0 : ∀ o, (w.alloc o).cell? ⟨g, 0, none⟩ = some (.int .u8 b0) := fun o => (World.cell?_of_block (Below.heap_alloc w o g hg)).trans h0
  have q1 : ∀ o, (w.alloc o).cell? ⟨g, 1, none⟩ = some (.int .u8 b1) := fun o => (World.cell?_of_block (Below.heap_alloc w o g hg)).trans h1
  have q2 : ∀ o, (w.alloc o).cell? ⟨g, 2, none⟩ = some (.int .u8 b2) := fun o => (World.cell?_of_block (Below.heap_alloc w o g hg)).trans h2
  have q3 : ∀ o, (w.alloc o).cell? ⟨g, 3, none⟩ = some (.int .u8 b3) := fun o => (World.cell?_of_block (Below.heap_alloc w o g hg)).trans h3
  clear hg
  go_enter Tryd.func40, Tryd.ntmps40
  go_wp2
  go_region
  go_wp2
  go_ret
  exact ⟨rfl, (below_alloc (Below.refl _ _) _).drew⟩
set_option maxHeartbeats 4000000 in
set_option maxRecDepth 100000 in
theorem xUint32n.calls (g p n cap : Nat) (hn : 4 ≤ n) (b0 b1 b2 b3 : Int) (w : World) (h0 : w.cell? ⟨g, p, none⟩ = some (.int .u8 b0)) (h1 : w.cell? ⟨g, p + 1, none⟩ = some (.int .u8 b1)) (h2 : w.cell? ⟨g, p + 2, none⟩ = some (.int .u8 b2)) (h3 : w.cell? ⟨g, p + 3, none⟩ = some (.int .u8 b3)) :
    Calls Tryd.prog 40 #[.agg #[], .slice (some ⟨g, p, none⟩) n cap] w fun e w' => e = .returned (.int .u32 (xu32 b0 b1 b2 b3)) ∧ Below w.heap.size w w' := by
  have hg : g < w.heap.size := by
    by_cases h : g < w.heap.size
    · exact h
    · have hn : w.heap[g]? = none := Array.getElem?_eq_none (by omega)
      simp [World.cell?, hn] at h0
  have q0 : ∀ o, (w.alloc o).cell? ⟨g, p, none⟩ = some (.int .u8 b0) := fun o => (World.cell?_of_block (Below.heap_alloc w o g hg)).trans h0
  have q1 : ∀ o, (w.alloc o).cell? ⟨g, p + 1, none⟩ = some (.int .u8 b1) := fun o => (World.cell?_of_block (Below.heap_alloc w o g hg)).trans h1
  have q2 : ∀ o, (w.alloc o).cell? ⟨g, p + 2, none⟩ = some (.int .u8 b2) := fun o => (World.cell?_of_block (Below.heap_alloc w o g hg)).trans h2
  have q3 : ∀ o, (w.alloc o).cell? ⟨g, p + 3, none⟩ = some (.int .u8 b3) := fun o => (World.cell?_of_block (Below.heap_alloc w o g hg)).trans h3
  have i0 : ((0 : Int) < (n : Int)) = True := eq_true (by omega)
  have i1 : ((1 : Int) < (n : Int)) = True := eq_true (by omega)
  have i2 : ((2 : Int) < (n : Int)) = True := eq_true (by omega)
  have i3 : ((3 : Int) < (n : Int)) = True := eq_true (by omega)
  have j0 : (0 < n) = True := eq_true (by omega)
  have j1 : (1 < n) = True := eq_true (by omega)
  have j2 : (2 < n) = True := eq_true (by omega)
  have j3 : (3 < n) = True := eq_true (by omega)
  clear hg hn
  go_enter Tryd.func40, Tryd.ntmps40
  go_wp2
  go_region
  go_wp2
  go_ret
  exact ⟨rfl, (below_alloc (Below.refl _ _) _).drew⟩

end Go.Proofs.YtcamchdenjpmhaaDoor.F
namespace Go.Proofs.YtcamchdenjpmhaaDoor.F
open Go Go.Shelf Go.RowKit Go.Proofs.YtcamchdenjpmhaaDoorW.PrintWords Go.Proofs.YtcamchdenjpmhaaDoorW.PrintLast Go.Proofs.YtcamchdenjpmhaaDoorW.PrintMore
attribute [local go_sem] max2_int min2_int max_two min_two max_three min_three max_four min_four   -- for this text's walks alone
set_option linter.unusedVariables false
set_option linter.unusedSimpArgs false

/-! ### impl_u32: function 31 -/
def impl_u32.f (a0 : ByteArray) : Option Int := if 4 ≤ a0.size then some (wrap64 (xu32 (bt a0 0) (bt a0 1) (bt a0 2) (bt a0 3))) else none
set_option maxHeartbeats 4000000 in
set_option maxRecDepth 100000 in
theorem impl_u32.calls (a0 : ByteArray) (r : Int) (w : World) (h : impl_u32.f a0 = some r) :
    Calls Tryd.prog 31 #[.string a0] w fun e w' => e = .returned (.int .i64 r) ∧ Below w.heap.size w w' := by
  unfold impl_u32.f at h
  split at h
  case isFalse => cases h
  case isTrue hs =>
  obtain rfl := Option.some.inj h
  have hcv := fun W x => Lib.run_convert_string_bytes (P := Tryd.prog) W 9 22 5 x Tryd.underlying9 Tryd.underlying22 Tryd.underlying5
  have hl1 : (4 ≤ (a0.size : Int)) = True := eq_true (by omega)
  have hl2 : (4 ≤ a0.size) = True := eq_true hs
  clear h
  have hrow : ∀ W : World, ∀ j : Nat, j < 4 → (Lib.bytesWorld W 5 (a0.extract 0 4)).cell? ⟨W.heap.size, j, none⟩ = some (.int .u8 (bt a0 (j : Int))) := by
    intro W j hj
    have hz : (a0.extract 0 4).size = 4 := by rw [ByteArray.size_extract]; omega
    have hlb := bytesOf_length (a0.extract 0 4)
    rw [(Go.Proofs.YtcamchdenjpmhaaDoorW.XConv.Row8.conv W 5 (a0.extract 0 4)).cell j (by omega)]
    have hg : (bytesOf (a0.extract 0 4)).getD j 0 = bt (a0.extract 0 4) (j : Int) := by rw [← rd_bytesOf]; simp [rd]
    have hb : bt (a0.extract 0 4) (j : Int) = bt a0 (j : Int) := by
      have h1 := bt_at (a0.extract 0 4) (j : Int) (by simpa [hz] using hj)
      have h2 := bt_at a0 (j : Int) (by simpa using (by omega : j < a0.size))
      rw [← h1, ← h2]
      simp [ByteArray.getElem_extract]
    rw [hg, hb]
  have hsz : ((a0.extract 0 4).size : Int) = 4 := by rw [ByteArray.size_extract]; omega
  have hsz2 : (a0.extract 0 4).size = 4 := by rw [ByteArray.size_extract]; omega
  have hbel : ∀ W : World, Below W.heap.size W (Lib.bytesWorld W 5 (a0.extract 0 4)) := fun W => bytes_below (Below.refl W.heap.size W) (Nat.le_refl _) 5 _
  have HROW := Aside0.mk hrow
  have HBEL := Aside0.mk hbel
  clear hrow hbel
  go_enter Tryd.func31, Tryd.ntmps31
  go_wp2
  refine start_ (n := 7) (S := fun w' => True) (ds := []) #[false, false, false, false, false, false, false] (by kernel_rfl) rfl rfl trivial (fun hHeld => ?_)
  refine pure_ (i := 1) (N := some 4) (v := ?_) (a' := ?_) #[false, true, false, false, false, false, false] rfl rfl (by kernel_rfl) (fun _ _ _ h => h) (Or.inl ⟨by rfl, ?_⟩) ?_ ?_
  rotate_left
  · intro w'
    go_simp
    with_reducible rfl
  rotate_left
  · simp only [Act.put, List.setIfInBounds_toArray, List.set_cons_zero, List.set_cons_succ, i64_w, i32_w]
    rfl
  refine pure_ (i := 2) (N := some 5) (v := ?_) (a' := ?_) #[false, true, true, false, false, false, false] rfl rfl (by kernel_rfl) (fun _ _ _ h => h) (Or.inl ⟨by rfl, ?_⟩) ?_ ?_
  rotate_left
  · intro w'
    go_simp
    with_reducible rfl
  rotate_left
  · simp only [Act.put, List.setIfInBounds_toArray, List.set_cons_zero, List.set_cons_succ, i64_w, i32_w]
    rfl
  refine take_ (i := 0) (N := some 3) (v := ?_) (a' := ?_) #[true, true, true, false, false, false, false] rfl rfl (by kernel_rfl) (fun _ _ _ h => h) (Or.inl ⟨by rfl, ?_⟩) hHeld ?_ ?_
  rotate_left
  · intro w' _
    go_simp
    with_reducible rfl
  rotate_left
  · simp only [Act.put, List.setIfInBounds_toArray, List.set_cons_zero, List.set_cons_succ, i64_w, i32_w]
    rfl
  refine one_ (i := 3) (N := some 6) #[true, true, true, true, false, false, false] rfl rfl (by kernel_rfl) (by decide) (fun K hK => ?_)
  refine value_ (w1 := ?_) (v := ?_) (by rfl) rfl ?_ ?_
  rotate_left 2
  · go_simp
    constructor
    · rfl
    · rfl
  refine hK.out _ _ trivial (fun hHeld => ?_)
  clear hK K
  refine norm_ (a' := ?_) ?_ ?_
  rotate_left
  · show Act.put _ (some 6) _ = _
    simp only [Act.put, List.setIfInBounds_toArray, List.set_cons_zero, List.set_cons_succ, i64_w, i32_w]
    rfl
  refine one_ (i := 4) (N := some 7) #[true, true, true, true, true, false, false] rfl rfl (by kernel_rfl) (by decide) (fun K hK => ?_)
  refine goes_ Tryd.func40 (by kernel_rfl) rfl #[.agg #[], .slice (some ⟨w.heap.size, 0, none⟩) 4 (grownCap w.drew 4 0 5)] (by rfl) rfl rfl (by simp only [List.map_toArray, List.map_cons, List.map_nil]; rfl) ?_
  with_reducible refine (xUint32.calls w.heap.size _ _ _ _ _ _ (HROW.out w.drew 0 (by decide)) (HROW.out w.drew 1 (by decide)) (HROW.out w.drew 2 (by decide)) (HROW.out w.drew 3 (by decide))).mono ?_
  rintro e w3 ⟨rfl, hb⟩
  refine ⟨_, rfl, ?_⟩
  refine hK.out _ _ trivial (fun hHeld => ?_)
  clear hK K
  refine norm_ (a' := ?_) ?_ ?_
  rotate_left
  · show Act.put _ (some 7) _ = _
    simp only [Act.put, List.setIfInBounds_toArray, List.set_cons_zero, List.set_cons_succ, i64_w, i32_w]
    rfl
  refine pure_ (i := 5) (N := some 8) (v := ?_) (a' := ?_) #[true, true, true, true, true, true, false] rfl rfl (by kernel_rfl) (fun _ _ _ h => h) (Or.inl ⟨by rfl, ?_⟩) ?_ ?_
  rotate_left
  · intro w'
    go_simp
    with_reducible rfl
  rotate_left
  · simp only [Act.put, List.setIfInBounds_toArray, List.set_cons_zero, List.set_cons_succ, i64_w, i32_w]
    rfl
  refine pure_ (i := 6) (N := some 2) (v := ?_) (a' := ?_) #[true, true, true, true, true, true, true] rfl rfl (by kernel_rfl) (fun _ _ _ h => h) (Or.inl ⟨by rfl, ?_⟩) ?_ ?_
  rotate_left
  · intro w'
    go_simp
    with_reducible rfl
  rotate_left
  · simp only [Act.put, List.setIfInBounds_toArray, List.set_cons_zero, List.set_cons_succ, i64_w, i32_w]
    rfl
  refine done_ (by kernel_rfl) ?_

  go_wp2
  go_ret
  exact ⟨rfl, below_step (below_step (below_drew (Below.refl w.heap.size w)) (HBEL.out w.drew)) hb⟩

end Go.Proofs.YtcamchdenjpmhaaDoor.F
namespace Go.Proofs.YtcamchdenjpmhaaDoor.F
open Go Go.Shelf Go.RowKit Go.Proofs.YtcamchdenjpmhaaDoorW.PrintWords Go.Proofs.YtcamchdenjpmhaaDoorW.PrintLast Go.Proofs.YtcamchdenjpmhaaDoorW.PrintMore
attribute [local go_sem] max2_int min2_int max_two min_two max_three min_three max_four min_four   -- for this text's walks alone
set_option linter.unusedVariables false
set_option linter.unusedSimpArgs false

/-! ### impl_hasPointers: function 32 -/
def impl_hasPointers.f (a0 : Int) : Option (Bool) := if a0 = 2 then (some true) else (if a0 = 5 then (some true) else (if a0 = 12 then (some true) else (if a0 = 15 then (some true) else (some (a0 == 6)))))
set_option maxHeartbeats 8000000 in
set_option maxRecDepth 100000 in
theorem impl_hasPointers.calls (a0 : Int) (r : Bool) (w : World) (h : impl_hasPointers.f a0 = some r) :
    Calls Tryd.prog 32 #[.int .i64 a0] w fun e w' => e = .returned (.bool r) ∧ Drawn0 w w' := by
  have H : (if a0 = 2 then (some true) else (if a0 = 5 then (some true) else (if a0 = 12 then (some true) else (if a0 = 15 then (some true) else (some (a0 == 6)))))) = some r := h
  clear h
  by_cases c2 : a0 = 2
  · rw [if_pos c2] at H
    have c2b0 : (a0 == 2) = true := beq_iff_eq.mpr c2
    have c2b1 : (a0 != 2) = false := bne_eq_false_iff_eq.mpr c2
    clear c2
    obtain rfl := Option.some.inj H
    go_enter Tryd.func32, Tryd.ntmps32
    go_wp2
    go_ret
    exact ⟨by first | rfl | (simp; done) | (simp [*]; done), by repeat (first | exact Drawn0.refl _ | apply Drawn0.step)⟩
  · rw [if_neg c2] at H
    have c2b0 : (a0 == 2) = false := beq_eq_false_iff_ne.mpr c2
    have c2b1 : (a0 != 2) = true := bne_iff_ne.mpr c2
    by_cases c3 : a0 = 5
    · rw [if_pos c3] at H
      have c3b0 : (a0 == 5) = true := beq_iff_eq.mpr c3
      have c3b1 : (a0 != 5) = false := bne_eq_false_iff_eq.mpr c3
      clear c3
      obtain rfl := Option.some.inj H
      go_enter Tryd.func32, Tryd.ntmps32
      go_wp2
      go_ret
      exact ⟨by first | rfl | (simp; done) | (simp [*]; done), by repeat (first | exact Drawn0.refl _ | apply Drawn0.step)⟩
    · rw [if_neg c3] at H
      have c3b0 : (a0 == 5) = false := beq_eq_false_iff_ne.mpr c3
      have c3b1 : (a0 != 5) = true := bne_iff_ne.mpr c3
      by_cases c4 : a0 = 12
      · rw [if_pos c4] at H
        have c4b0 : (a0 == 12) = true := beq_iff_eq.mpr c4
        have c4b1 : (a0 != 12) = false := bne_eq_false_iff_eq.mpr c4
        clear c4
        obtain rfl := Option.some.inj H
        go_enter Tryd.func32, Tryd.ntmps32
        go_wp2
        go_ret
        exact ⟨by first | rfl | (simp; done) | (simp [*]; done), by repeat (first | exact Drawn0.refl _ | apply Drawn0.step)⟩
      · rw [if_neg c4] at H
        have c4b0 : (a0 == 12) = false := beq_eq_false_iff_ne.mpr c4
        have c4b1 : (a0 != 12) = true := bne_iff_ne.mpr c4
        by_cases c5 : a0 = 15
        · rw [if_pos c5] at H
          have c5b0 : (a0 == 15) = true := beq_iff_eq.mpr c5
          have c5b1 : (a0 != 15) = false := bne_eq_false_iff_eq.mpr c5
          clear c5
          obtain rfl := Option.some.inj H
          go_enter Tryd.func32, Tryd.ntmps32
          go_wp2
          go_ret
          exact ⟨by first | rfl | (simp; done) | (simp [*]; done), by repeat (first | exact Drawn0.refl _ | apply Drawn0.step)⟩
        · rw [if_neg c5] at H
          have c5b0 : (a0 == 15) = false := beq_eq_false_iff_ne.mpr c5
          have c5b1 : (a0 != 15) = true := bne_iff_ne.mpr c5
          obtain rfl := Option.some.inj H
          go_enter Tryd.func32, Tryd.ntmps32
          go_wp2
          go_ret
          exact ⟨by first | rfl | (simp; done) | (simp [*]; done), by repeat (first | exact Drawn0.refl _ | apply Drawn0.step)⟩

end Go.Proofs.YtcamchdenjpmhaaDoor.F
namespace Go.Proofs.YtcamchdenjpmhaaDoor.F
open Go Go.Shelf Go.RowKit Go.Proofs.YtcamchdenjpmhaaDoorW.PrintWords Go.Proofs.YtcamchdenjpmhaaDoorW.PrintLast Go.Proofs.YtcamchdenjpmhaaDoorW.PrintMore
attribute [local go_sem] max2_int min2_int max_two min_two max_three min_three max_four min_four   -- for this text's walks alone
set_option linter.unusedVariables false
set_option linter.unusedSimpArgs false

/-! ### impl_nameAt: function 46 -/
def impl_nameAt.l0 : Nat → ByteArray → Int → Option (Int)
  | 0, _, _ => none
  | k + 1, x0, x3 => if x3 < (x0.size : Int) then (if 0 ≤ x3 then (if (wrap64 (bt x0 x3)) = 0 then (if (wrap64 (x3 + 1)) > 255 then (some 0) else (some (wrap64 (x3 + 1)))) else (if (wrap64 (bt x0 x3)) > 63 then (some 0) else (impl_nameAt.l0 k x0 (wrap64 (x3 + (wrap64 (1 + (wrap64 (bt x0 x3))))))))) else (none)) else (some 0)
def impl_nameAt.f (k : Nat) (a0 : ByteArray) : Option (Int) := impl_nameAt.l0 k a0 0
theorem impl_nameAt.mono_l : ∀ k, (∀ y0 y1, LeO (impl_nameAt.l0 k y0 y1) (impl_nameAt.l0 (k + 1) y0 y1))
  | 0 => fun _ _ r h => by simp [impl_nameAt.l0] at h
  | k + 1 => by
    have ih0 := impl_nameAt.mono_l k
    · intro y0 y1
      unfold impl_nameAt.l0
      repeat' first
      | (with_reducible exact ih0 _ _)
      | (with_reducible exact LeO.refl _)
      | (with_reducible exact LeO.none _)
      | (with_reducible refine LeO.ite ?_ ?_)
      | (with_reducible refine LeO.bind ?_ (fun _ => ?_))
      | exact ih0 _ _
      | exact LeO.none _
      | refine LeO.ite ?_ ?_
      | refine LeO.bind ?_ (fun _ => ?_)
theorem impl_nameAt.mono : ∀ a0 k, LeO (impl_nameAt.f k a0) (impl_nameAt.f (k + 1) a0) := by
  intro a0 k
  have ih0 := impl_nameAt.mono_l k
  unfold impl_nameAt.f
  repeat' first
      | (with_reducible exact ih0 _ _)
      | (with_reducible exact LeO.refl _)
      | (with_reducible exact LeO.none _)
      | (with_reducible refine LeO.ite ?_ ?_)
      | (with_reducible refine LeO.bind ?_ (fun _ => ?_))
      | exact ih0 _ _
      | exact LeO.none _
      | refine LeO.ite ?_ ?_
      | refine LeO.bind ?_ (fun _ => ?_)
set_option maxHeartbeats 8000000 in
set_option maxRecDepth 100000 in
theorem impl_nameAt.calls (k : Nat) (a0 : ByteArray) (r : Int) (w : World) (h : impl_nameAt.f k a0 = some r) :
    Calls Tryd.prog 46 #[.string a0] w fun e w' => e = .returned (.int .i64 r) ∧ Drawn0 w w' := by
  have H : (impl_nameAt.l0 k a0 0) = some r := h
  clear h
  have H' := Aside0.mk H
  clear H
  go_enter Tryd.func46, Tryd.ntmps46
  go_wp2
  go_loopg [3] k (fun kq v3 w' => ∃ (x3_1 : Int), v3 = .int .i64 x3_1 ∧ Aside0 (impl_nameAt.l0 kq a0 x3_1 = some r) ∧ Aside0 (kq ≤ k) ∧ Drawn0 w w')
  case atStart => exact ⟨(0), (by first | rfl | (simp; done) | (simp [*]; done)), H', ⟨Nat.le_refl _⟩, by repeat (first | exact Drawn0.refl _ | apply Drawn0.step)⟩
  case round =>
    clear H'
    obtain ⟨x3_1, rfl, HA, HK1, ⟨m1, rfl⟩⟩ := hrel
    cases gk with
    | zero => exact absurd HA.out (by simp [impl_nameAt.l0])
    | succ k1 =>
      have H := HA.out
      clear HA
      simp only [impl_nameAt.l0] at H
      by_cases c2 : x3_1 < (a0.size : Int)
      · rw [if_pos c2] at H
        have c2b0 : decide (x3_1 < (a0.size : Int)) = true := decide_eq_true c2
        clear c2
        by_cases c3 : 0 ≤ x3_1
        · rw [if_pos c3] at H
          have c3b0 : decide (0 ≤ x3_1) = true := decide_eq_true c3
          clear c3
          by_cases c5 : (wrap64 (bt a0 x3_1)) = 0
          · rw [if_pos c5] at H
            have c5b0 : ((wrap64 (bt a0 x3_1)) == 0) = true := beq_iff_eq.mpr c5
            have c5b1 : ((wrap64 (bt a0 x3_1)) != 0) = false := bne_eq_false_iff_eq.mpr c5
            clear c5
            by_cases c6 : (wrap64 (x3_1 + 1)) > 255
            · rw [if_pos c6] at H
              have c6b0 : decide (255 < (wrap64 (x3_1 + 1))) = true := decide_eq_true c6
              clear c6
              obtain rfl := Option.some.inj H
              have p4 : 0 ≤ (x3_1 : Int) := of_decide_eq_true (by first | (with_reducible assumption) | assumption)
              have q4 : x3_1 < (a0.size : Int) := of_decide_eq_true (by first | (with_reducible assumption) | assumption)
              have hx4 := bt_at a0 x3_1
              replace p4 := eq_true p4
              replace q4 := eq_true q4
              go_wp2
              go_ret
              exact ⟨by first | rfl | (simp; done) | (simp [*]; done), by repeat (first | exact Drawn0.refl _ | apply Drawn0.step)⟩
            · rw [if_neg c6] at H
              have c6b0 : decide (255 < (wrap64 (x3_1 + 1))) = false := decide_eq_false c6
              clear c6
              obtain rfl := Option.some.inj H
              have p4 : 0 ≤ (x3_1 : Int) := of_decide_eq_true (by first | (with_reducible assumption) | assumption)
              have q4 : x3_1 < (a0.size : Int) := of_decide_eq_true (by first | (with_reducible assumption) | assumption)
              have hx4 := bt_at a0 x3_1
              replace p4 := eq_true p4
              replace q4 := eq_true q4
              go_wp2
              go_ret
              exact ⟨by first | rfl | (simp; done) | (simp [*]; done), by repeat (first | exact Drawn0.refl _ | apply Drawn0.step)⟩
          · rw [if_neg c5] at H
            have c5b0 : ((wrap64 (bt a0 x3_1)) == 0) = false := beq_eq_false_iff_ne.mpr c5
            have c5b1 : ((wrap64 (bt a0 x3_1)) != 0) = true := bne_iff_ne.mpr c5
            by_cases c7 : (wrap64 (bt a0 x3_1)) > 63
            · rw [if_pos c7] at H
              have c7b0 : decide (63 < (wrap64 (bt a0 x3_1))) = true := decide_eq_true c7
              clear c7
              obtain rfl := Option.some.inj H
              have p4 : 0 ≤ (x3_1 : Int) := of_decide_eq_true (by first | (with_reducible assumption) | assumption)
              have q4 : x3_1 < (a0.size : Int) := of_decide_eq_true (by first | (with_reducible assumption) | assumption)
              have hx4 := bt_at a0 x3_1
              replace p4 := eq_true p4
              replace q4 := eq_true q4
              go_wp2
              go_ret
              exact ⟨by first | rfl | (simp; done) | (simp [*]; done), by repeat (first | exact Drawn0.refl _ | apply Drawn0.step)⟩
            · rw [if_neg c7] at H
              have c7b0 : decide (63 < (wrap64 (bt a0 x3_1))) = false := decide_eq_false c7
              clear c7
              have H' := Aside0.mk H
              clear H
              have p4 : 0 ≤ (x3_1 : Int) := of_decide_eq_true (by first | (with_reducible assumption) | assumption)
              have q4 : x3_1 < (a0.size : Int) := of_decide_eq_true (by first | (with_reducible assumption) | assumption)
              have hx4 := bt_at a0 x3_1
              replace p4 := eq_true p4
              replace q4 := eq_true q4
              go_wp2
              go_roundg k1
              case measure => have := HK1.out; omega
              case rel => exact ⟨(wrap64 (x3_1 + (wrap64 (1 + (wrap64 (bt a0 x3_1)))))), (by first | rfl | (simp; done) | (simp [*]; done)), H', ⟨by have := HK1.out; omega⟩, by repeat (first | exact Drawn0.refl _ | apply Drawn0.step)⟩
        · rw [if_neg c3] at H
          exact absurd H (by simp)
      · rw [if_neg c2] at H
        have c2b0 : decide (x3_1 < (a0.size : Int)) = false := decide_eq_false c2
        clear c2
        obtain rfl := Option.some.inj H
        go_wp2
        go_ret
        exact ⟨by first | rfl | (simp; done) | (simp [*]; done), by repeat (first | exact Drawn0.refl _ | apply Drawn0.step)⟩

end Go.Proofs.YtcamchdenjpmhaaDoor.F
namespace Go.Proofs.YtcamchdenjpmhaaDoor.F
open Go Go.Shelf Go.RowKit Go.Proofs.YtcamchdenjpmhaaDoorW.PrintWords Go.Proofs.YtcamchdenjpmhaaDoorW.PrintLast Go.Proofs.YtcamchdenjpmhaaDoorW.PrintMore
attribute [local go_sem] max2_int min2_int max_two min_two max_three min_three max_four min_four   -- for this text's walks alone
set_option linter.unusedVariables false
set_option linter.unusedSimpArgs false

/-! ### impl_MapTypes: function 47 -/
mutual
def impl_MapTypes.l0 : Nat → ByteArray → List Int → Int → Int → Option (List Int × Int)
  | 0, _, _, _, _ => none
  | k + 1, x0, x4, x5, x6 => if x6 < (x0.size : Int) then (if (wrap64 (x6 + 2)) > (x0.size : Int) then (some (([] : List Int), 7)) else (if 0 ≤ x6 then (if 0 ≤ (wrap64 (x6 + 1)) then (if (wrap64 (x6 + 1)) < (x0.size : Int) then (if (wrap64 (bt x0 x6)) ≤ x5 then (impl_MapTypes.j1 k x0 x4 x6 (wrap64 (bt x0 x6)) (wrap64 (bt x0 (wrap64 (x6 + 1)))) true) else (if (wrap64 (bt x0 (wrap64 (x6 + 1)))) < 1 then (impl_MapTypes.j1 k x0 x4 x6 (wrap64 (bt x0 x6)) (wrap64 (bt x0 (wrap64 (x6 + 1)))) true) else (if (wrap64 (bt x0 (wrap64 (x6 + 1)))) > 32 then (impl_MapTypes.j1 k x0 x4 x6 (wrap64 (bt x0 x6)) (wrap64 (bt x0 (wrap64 (x6 + 1)))) true) else (if (wrap64 ((wrap64 (x6 + 2)) + (wrap64 (bt x0 (wrap64 (x6 + 1)))))) > (x0.size : Int) then (impl_MapTypes.j1 k x0 x4 x6 (wrap64 (bt x0 x6)) (wrap64 (bt x0 (wrap64 (x6 + 1)))) true) else (if 0 ≤ (wrap64 ((wrap64 (x6 + 1)) + (wrap64 (bt x0 (wrap64 (x6 + 1)))))) then (if (wrap64 ((wrap64 (x6 + 1)) + (wrap64 (bt x0 (wrap64 (x6 + 1)))))) < (x0.size : Int) then (impl_MapTypes.j1 k x0 x4 x6 (wrap64 (bt x0 x6)) (wrap64 (bt x0 (wrap64 (x6 + 1)))) ((bt x0 (wrap64 ((wrap64 (x6 + 1)) + (wrap64 (bt x0 (wrap64 (x6 + 1))))))) == 0)) else (none)) else (none)))))) else (none)) else (none)) else (none))) else (some (x4, 0))
def impl_MapTypes.j1 : Nat → ByteArray → List Int → Int → Int → Int → Bool → Option (List Int × Int)
  | 0, _, _, _, _, _, _ => none
  | k + 1, x0, x4, x6, x7, x8, x57 => if x57 = true then (some (([] : List Int), 7)) else (impl_MapTypes.l1 k x0 x4 x7 x6 x7 x8 0)
def impl_MapTypes.l1 : Nat → ByteArray → List Int → Int → Int → Int → Int → Int → Option (List Int × Int)
  | 0, _, _, _, _, _, _, _ => none
  | k + 1, x0, x4, x5, x6, x7, x8, x9 => if x9 < x8 then (impl_MapTypes.l2 k x0 x4 x5 x6 x7 x8 x9 0) else (impl_MapTypes.l0 k x0 x4 x5 (wrap64 (x6 + (wrap64 (2 + x8)))))
def impl_MapTypes.l2 : Nat → ByteArray → List Int → Int → Int → Int → Int → Int → Int → Option (List Int × Int)
  | 0, _, _, _, _, _, _, _, _ => none
  | k + 1, x0, x4, x5, x6, x7, x8, x9, x10 => if x10 < 8 then (if 0 ≤ (wrap64 ((wrap64 (x6 + 2)) + x9)) then (if (wrap64 ((wrap64 (x6 + 2)) + x9)) < (x0.size : Int) then (if 0 ≤ (wrap64 (7 - x10)) then (if (Go.bits .and .u8 (shr .u8 (bt x0 (wrap64 ((wrap64 (x6 + 2)) + x9))) (wrap64 (7 - x10))) 1) = 1 then (if x4.length < 17592186044416 then (impl_MapTypes.l2 k x0 (x4 ++ [wrap64 ((wrap64 ((wrap64 (256 * x7)) + (wrap64 (8 * x9)))) + x10)]) x5 x6 x7 x8 x9 (wrap64 (x10 + 1))) else (none)) else (impl_MapTypes.l2 k x0 x4 x5 x6 x7 x8 x9 (wrap64 (x10 + 1)))) else (none)) else (none)) else (none)) else (impl_MapTypes.l1 k x0 x4 x5 x6 x7 x8 (wrap64 (x9 + 1)))
end
def impl_MapTypes.f (k : Nat) (a0 : ByteArray) : Option (List Int × Int) := impl_MapTypes.l0 k a0 ([] : List Int) (-1) 0
theorem impl_MapTypes.mono_l : ∀ k, (∀ y0 y1 y2 y3, LeO (impl_MapTypes.l0 k y0 y1 y2 y3) (impl_MapTypes.l0 (k + 1) y0 y1 y2 y3)) ∧ (∀ y0 y1 y2 y3 y4 y5, LeO (impl_MapTypes.j1 k y0 y1 y2 y3 y4 y5) (impl_MapTypes.j1 (k + 1) y0 y1 y2 y3 y4 y5)) ∧ (∀ y0 y1 y2 y3 y4 y5 y6, LeO (impl_MapTypes.l1 k y0 y1 y2 y3 y4 y5 y6) (impl_MapTypes.l1 (k + 1) y0 y1 y2 y3 y4 y5 y6)) ∧ (∀ y0 y1 y2 y3 y4 y5 y6 y7, LeO (impl_MapTypes.l2 k y0 y1 y2 y3 y4 y5 y6 y7) (impl_MapTypes.l2 (k + 1) y0 y1 y2 y3 y4 y5 y6 y7))
  | 0 => ⟨fun _ _ _ _ r h => by simp [impl_MapTypes.l0] at h, fun _ _ _ _ _ _ r h => by simp [impl_MapTypes.j1] at h, fun _ _ _ _ _ _ _ r h => by simp [impl_MapTypes.l1] at h, fun _ _ _ _ _ _ _ _ r h => by simp [impl_MapTypes.l2] at h⟩
  | k + 1 => by
    obtain ⟨ih0, ih1, ih2, ih3⟩ := impl_MapTypes.mono_l k
    refine ⟨?_, ?_, ?_, ?_⟩
    · intro y0 y1 y2 y3
      unfold impl_MapTypes.l0
      repeat' first
      | (with_reducible exact ih0 _ _ _ _)
      | (with_reducible exact ih1 _ _ _ _ _ _)
      | (with_reducible exact ih2 _ _ _ _ _ _ _)
      | (with_reducible exact ih3 _ _ _ _ _ _ _ _)
      | (with_reducible exact LeO.refl _)
      | (with_reducible exact LeO.none _)
      | (with_reducible refine LeO.ite ?_ ?_)
      | (with_reducible refine LeO.bind ?_ (fun _ => ?_))
      | exact ih0 _ _ _ _
      | exact ih1 _ _ _ _ _ _
      | exact ih2 _ _ _ _ _ _ _
      | exact ih3 _ _ _ _ _ _ _ _
      | exact LeO.none _
      | refine LeO.ite ?_ ?_
      | refine LeO.bind ?_ (fun _ => ?_)
    · intro y0 y1 y2 y3 y4 y5
      unfold impl_MapTypes.j1
      repeat' first
      | (with_reducible exact ih0 _ _ _ _)
      | (with_reducible exact ih1 _ _ _ _ _ _)
      | (with_reducible exact ih2 _ _ _ _ _ _ _)
      | (with_reducible exact ih3 _ _ _ _ _ _ _ _)
      | (with_reducible exact LeO.refl _)
      | (with_reducible exact LeO.none _)
      | (with_reducible refine LeO.ite ?_ ?_)
      | (with_reducible refine LeO.bind ?_ (fun _ => ?_))
      | exact ih0 _ _ _ _
      | exact ih1 _ _ _ _ _ _
      | exact ih2 _ _ _ _ _ _ _
      | exact ih3 _ _ _ _ _ _ _ _
      | exact LeO.none _
      | refine LeO.ite ?_ ?_
      | refine LeO.bind ?_ (fun _ => ?_)
    · intro y0 y1 y2 y3 y4 y5 y6
      unfold impl_MapTypes.l1
      repeat' first
      | (with_reducible exact ih0 _ _ _ _)
      | (with_reducible exact ih1 _ _ _ _ _ _)
      | (with_reducible exact ih2 _ _ _ _ _ _ _)
      | (with_reducible exact ih3 _ _ _ _ _ _ _ _)
      | (with_reducible exact LeO.refl _)
      | (with_reducible exact LeO.none _)
      | (with_reducible refine LeO.ite ?_ ?_)
      | (with_reducible refine LeO.bind ?_ (fun _ => ?_))
      | exact ih0 _ _ _ _
      | exact ih1 _ _ _ _ _ _
      | exact ih2 _ _ _ _ _ _ _
      | exact ih3 _ _ _ _ _ _ _ _
      | exact LeO.none _
      | refine LeO.ite ?_ ?_
      | refine LeO.bind ?_ (fun _ => ?_)
    · intro y0 y1 y2 y3 y4 y5 y6 y7
      unfold impl_MapTypes.l2
      repeat' first
      | (with_reducible exact ih0 _ _ _ _)
      | (with_reducible exact ih1 _ _ _ _ _ _)
      | (with_reducible exact ih2 _ _ _ _ _ _ _)
      | (with_reducible exact ih3 _ _ _ _ _ _ _ _)
      | (with_reducible exact LeO.refl _)
      | (with_reducible exact LeO.none _)
      | (with_reducible refine LeO.ite ?_ ?_)
      | (with_reducible refine LeO.bind ?_ (fun _ => ?_))
      | exact ih0 _ _ _ _
      | exact ih1 _ _ _ _ _ _
      | exact ih2 _ _ _ _ _ _ _
      | exact ih3 _ _ _ _ _ _ _ _
      | exact LeO.none _
      | refine LeO.ite ?_ ?_
      | refine LeO.bind ?_ (fun _ => ?_)
theorem impl_MapTypes.mono : ∀ a0 k, LeO (impl_MapTypes.f k a0) (impl_MapTypes.f (k + 1) a0) := by
  intro a0 k
  obtain ⟨ih0, ih1, ih2, ih3⟩ := impl_MapTypes.mono_l k
  unfold impl_MapTypes.f
  repeat' first
      | (with_reducible exact ih0 _ _ _ _)
      | (with_reducible exact ih1 _ _ _ _ _ _)
      | (with_reducible exact ih2 _ _ _ _ _ _ _)
      | (with_reducible exact ih3 _ _ _ _ _ _ _ _)
      | (with_reducible exact LeO.refl _)
      | (with_reducible exact LeO.none _)
      | (with_reducible refine LeO.ite ?_ ?_)
      | (with_reducible refine LeO.bind ?_ (fun _ => ?_))
      | exact ih0 _ _ _ _
      | exact ih1 _ _ _ _ _ _
      | exact ih2 _ _ _ _ _ _ _
      | exact ih3 _ _ _ _ _ _ _ _
      | exact LeO.none _
      | refine LeO.ite ?_ ?_
      | refine LeO.bind ?_ (fun _ => ?_)
set_option maxHeartbeats 8000000 in
set_option maxRecDepth 100000 in
theorem impl_MapTypes.calls (k : Nat) (a0 : ByteArray) (r1 : List Int) (r2 : Int) (w : World) (h : impl_MapTypes.f k a0 = some (r1, r2)) :
    Calls Tryd.prog 47 #[.string a0] w fun e w' => ∃ v0_ : Value, e = .returned (.tuple #[v0_, .int .i64 r2]) ∧ Kd.R (Kd.int .i64) 2 w' w.heap.size (fun _ => True) v0_ r1 ∧ Below w.heap.size w w' := by
  have HB := Aside0.mk (Below.refl w.heap.size w)
  have H : (impl_MapTypes.l0 k a0 ([] : List Int) (-1) 0) = some (r1, r2) := h
  clear h
  have H' := Aside0.mk H
  clear H
  go_enter Tryd.func47, Tryd.ntmps47
  go_wp2
  repeat (go_quiet (fail); try go_wp2)
  go_loopg [4, 5, 6] k (fun kq v4 v5 v6 w' => ∃ (x4_1 : List Int) (x5_1 : Int) (x6_1 : Int), v5 = .int .i64 x5_1 ∧ v6 = .int .i64 x6_1 ∧ Aside0 (impl_MapTypes.l0 kq a0 x4_1 x5_1 x6_1 = some (r1, r2)) ∧ Aside0 (kq ≤ k) ∧ Aside0 (Kd.R (Kd.int .i64) 2 w' w.heap.size (fun _ => True) v4 x4_1) ∧ Aside0 (Below w.heap.size w w'))
  case atStart => exact ⟨(([] : List Int)), ((-1)), (0), (by first | rfl | (simp; done) | (simp [*]; done)), (by first | rfl | (simp; done) | (simp [*]; done)), H', ⟨Nat.le_refl _⟩, ⟨by first | exact Kd.R_nil _ _ _ _ _ | exact Kd.N_nil _ _ _ _ _ | exact Kd.V_nil _ _ _ _ _ | exact Kd.Q_nil _ _ _ _ _ | exact Kd.S_nil _ _ _ _ _⟩, ⟨by repeat (first | (with_reducible first | exact HB.out | apply below_alloc | apply pw_below_drewN | apply below_drew1) | exact HB.out)⟩⟩
  case round =>
    clear H'
    obtain ⟨x4_1, x5_1, x6_1, rfl, rfl, HA, HK1, HO_4, HB⟩ := hrel
    cases gk with
    | zero => exact absurd HA.out (by simp [impl_MapTypes.l0])
    | succ k1 =>
      have H := HA.out
      clear HA
      simp only [impl_MapTypes.l0] at H
      by_cases c2 : x6_1 < (a0.size : Int)
      · rw [if_pos c2] at H
        have c2b0 : decide (x6_1 < (a0.size : Int)) = true := decide_eq_true c2
        clear c2
        by_cases c3 : (wrap64 (x6_1 + 2)) > (a0.size : Int)
        · rw [if_pos c3] at H
          have c3b0 : decide ((a0.size : Int) < (wrap64 (x6_1 + 2))) = true := decide_eq_true c3
          clear c3
          simp only [Option.some.injEq, Prod.mk.injEq] at H
          obtain ⟨rfl, rfl⟩ := H
          go_wp2
          repeat (go_quiet (fail); try go_wp2)
          go_ret2
          exact ⟨_, by first | rfl | (simp [errW_none, errW_some] <;> rfl) | (simp [*, errW_none, errW_some] <;> rfl), by first | exact Kd.R_nil _ _ _ _ _ | exact Kd.N_nil _ _ _ _ _ | exact Kd.V_nil _ _ _ _ _ | exact Kd.Q_nil _ _ _ _ _ | exact Kd.S_nil _ _ _ _ _, by repeat (first | (with_reducible first | exact HB.out | apply below_alloc | apply pw_below_drewN | apply below_drew1) | exact HB.out)⟩
        · rw [if_neg c3] at H
          have c3b0 : decide ((a0.size : Int) < (wrap64 (x6_1 + 2))) = false := decide_eq_false c3
          clear c3
          by_cases c4 : 0 ≤ x6_1
          · rw [if_pos c4] at H
            have c4b0 : decide (0 ≤ x6_1) = true := decide_eq_true c4
            clear c4
            obtain ⟨ji6, hji6⟩ : ∃ j_ : Int, (wrap64 (x6_1 + 1)) = j_ := ⟨_, rfl⟩
            replace H : (if 0 ≤ (ji6) then (if (ji6) < (a0.size : Int) then (if (wrap64 (bt a0 x6_1)) ≤ x5_1 then (impl_MapTypes.j1 k1 a0 x4_1 x6_1 (wrap64 (bt a0 x6_1)) (wrap64 (bt a0 (ji6))) true) else (if (wrap64 (bt a0 (ji6))) < 1 then (impl_MapTypes.j1 k1 a0 x4_1 x6_1 (wrap64 (bt a0 x6_1)) (wrap64 (bt a0 (ji6))) true) else (if (wrap64 (bt a0 (ji6))) > 32 then (impl_MapTypes.j1 k1 a0 x4_1 x6_1 (wrap64 (bt a0 x6_1)) (wrap64 (bt a0 (ji6))) true) else (if (wrap64 ((wrap64 (x6_1 + 2)) + (wrap64 (bt a0 (ji6))))) > (a0.size : Int) then (impl_MapTypes.j1 k1 a0 x4_1 x6_1 (wrap64 (bt a0 x6_1)) (wrap64 (bt a0 (ji6))) true) else (if 0 ≤ (wrap64 ((ji6) + (wrap64 (bt a0 (ji6))))) then (if (wrap64 ((ji6) + (wrap64 (bt a0 (ji6))))) < (a0.size : Int) then (impl_MapTypes.j1 k1 a0 x4_1 x6_1 (wrap64 (bt a0 x6_1)) (wrap64 (bt a0 (ji6))) ((bt a0 (wrap64 ((ji6) + (wrap64 (bt a0 (ji6)))))) == 0)) else (none)) else (none)))))) else (none)) else (none)) = some (r1, r2) := by first | (rw [hji6] at H; exact H) | (simp only [hji6] at H ⊢; exact H)
            have hji6w : (IntKind.i64.wrap (x6_1 + 1)) = ji6 := (i64_w _).trans hji6
            by_cases c7 : 0 ≤ (ji6)
            · rw [if_pos c7] at H
              have c7b0 : decide (0 ≤ (ji6)) = true := decide_eq_true c7
              clear c7
              by_cases c8 : (ji6) < (a0.size : Int)
              · rw [if_pos c8] at H
                have c8b0 : decide ((ji6) < (a0.size : Int)) = true := decide_eq_true c8
                clear c8
                have HC10 := Aside0.mk H
                clear H
                have p5 : 0 ≤ (x6_1 : Int) := of_decide_eq_true (by first | (with_reducible assumption) | assumption)
                have q5 : x6_1 < (a0.size : Int) := of_decide_eq_true (by first | (with_reducible assumption) | assumption)
                have hx5 := bt_at a0 x6_1
                replace p5 := eq_true p5
                replace q5 := eq_true q5
                have p9 : 0 ≤ ((ji6) : Int) := of_decide_eq_true (by first | (with_reducible assumption) | assumption)
                have q9 : (ji6) < (a0.size : Int) := of_decide_eq_true (by first | (with_reducible assumption) | assumption)
                have hx9 := bt_at a0 (ji6)
                replace p9 := eq_true p9
                replace q9 := eq_true q9
                go_upto_region 8 with (fail)
                repeat (go_quiet (fail); go_upto_region 8 with (fail))
                go_cut [57] (fun v57 wc => ∃ (kq : Nat) (x57_9 : Bool), v57 = .bool x57_9 ∧ Aside0 (impl_MapTypes.j1 kq a0 x4_1 x6_1 (wrap64 (bt a0 x6_1)) (wrap64 (bt a0 (ji6))) x57_9 = some (r1, r2)) ∧ Aside0 (kq ≤ k1) ∧ Aside0 (Kd.R (Kd.int .i64) 2 wc w.heap.size (fun _ => True) u4 x4_1) ∧ Aside0 (Below w.heap.size w wc))
                case first =>
                  have H := HC10.out
                  clear HC10
                  by_cases c11 : (wrap64 (bt a0 x6_1)) ≤ x5_1
                  · rw [if_pos c11] at H
                    have c11b0 : decide ((wrap64 (bt a0 x6_1)) ≤ x5_1) = true := decide_eq_true c11
                    clear c11
                    (first | rw [c11b0] | (simp only [i64_w, i32_w]; rw [c11b0]) | skip)
                    have H' := Aside0.mk H
                    clear H
                    go_wp2
                    repeat (go_quiet (fail); try go_wp2)
                    go_meet
                    case rel => exact ⟨_, (true), (by first | rfl | (simp; done) | (simp [*]; done)), H', ⟨by have := HK1.out; first | omega | exact Nat.le_refl _⟩, ⟨by (with_reducible repeat (first | apply Kd.R_alloc | apply Kd.R_drewN | apply Kd.R_drew)); exact HO_4.out⟩, ⟨by repeat (first | (with_reducible first | exact HB.out | apply below_alloc | apply pw_below_drewN | apply below_drew1) | exact HB.out)⟩⟩
                  · rw [if_neg c11] at H
                    have c11b0 : decide ((wrap64 (bt a0 x6_1)) ≤ x5_1) = false := decide_eq_false c11
                    clear c11
                    (first | rw [c11b0] | (simp only [i64_w, i32_w]; rw [c11b0]) | skip)
                    by_cases c12 : (wrap64 (bt a0 (ji6))) < 1
                    · rw [if_pos c12] at H
                      have c12b0 : decide ((wrap64 (bt a0 (ji6))) < 1) = true := decide_eq_true c12
                      clear c12
                      have H' := Aside0.mk H
                      clear H
                      go_wp2
                      repeat (go_quiet (fail); try go_wp2)
                      go_meet
                      case rel => exact ⟨_, (true), (by first | rfl | (simp; done) | (simp [*]; done)), H', ⟨by have := HK1.out; first | omega | exact Nat.le_refl _⟩, ⟨by (with_reducible repeat (first | apply Kd.R_alloc | apply Kd.R_drewN | apply Kd.R_drew)); exact HO_4.out⟩, ⟨by repeat (first | (with_reducible first | exact HB.out | apply below_alloc | apply pw_below_drewN | apply below_drew1) | exact HB.out)⟩⟩
                    · rw [if_neg c12] at H
                      have c12b0 : decide ((wrap64 (bt a0 (ji6))) < 1) = false := decide_eq_false c12
                      clear c12
                      by_cases c13 : (wrap64 (bt a0 (ji6))) > 32
                      · rw [if_pos c13] at H
                        have c13b0 : decide (32 < (wrap64 (bt a0 (ji6)))) = true := decide_eq_true c13
                        clear c13
                        have H' := Aside0.mk H
                        clear H
                        go_wp2
                        repeat (go_quiet (fail); try go_wp2)
                        go_meet
                        case rel => exact ⟨_, (true), (by first | rfl | (simp; done) | (simp [*]; done)), H', ⟨by have := HK1.out; first | omega | exact Nat.le_refl _⟩, ⟨by (with_reducible repeat (first | apply Kd.R_alloc | apply Kd.R_drewN | apply Kd.R_drew)); exact HO_4.out⟩, ⟨by repeat (first | (with_reducible first | exact HB.out | apply below_alloc | apply pw_below_drewN | apply below_drew1) | exact HB.out)⟩⟩
                      · rw [if_neg c13] at H
                        have c13b0 : decide (32 < (wrap64 (bt a0 (ji6)))) = false := decide_eq_false c13
                        clear c13
                        by_cases c14 : (wrap64 ((wrap64 (x6_1 + 2)) + (wrap64 (bt a0 (ji6))))) > (a0.size : Int)
                        · rw [if_pos c14] at H
                          have c14b0 : decide ((a0.size : Int) < (wrap64 ((wrap64 (x6_1 + 2)) + (wrap64 (bt a0 (ji6)))))) = true := decide_eq_true c14
                          clear c14
                          have H' := Aside0.mk H
                          clear H
                          go_wp2
                          repeat (go_quiet (fail); try go_wp2)
                          go_meet
                          case rel => exact ⟨_, (true), (by first | rfl | (simp; done) | (simp [*]; done)), H', ⟨by have := HK1.out; first | omega | exact Nat.le_refl _⟩, ⟨by (with_reducible repeat (first | apply Kd.R_alloc | apply Kd.R_drewN | apply Kd.R_drew)); exact HO_4.out⟩, ⟨by repeat (first | (with_reducible first | exact HB.out | apply below_alloc | apply pw_below_drewN | apply below_drew1) | exact HB.out)⟩⟩
                        · rw [if_neg c14] at H
                          have c14b0 : decide ((a0.size : Int) < (wrap64 ((wrap64 (x6_1 + 2)) + (wrap64 (bt a0 (ji6)))))) = false := decide_eq_false c14
                          clear c14
                          obtain ⟨ji15, hji15⟩ : ∃ j_ : Int, (wrap64 ((ji6) + (wrap64 (bt a0 (ji6))))) = j_ := ⟨_, rfl⟩
                          replace H : (if 0 ≤ (ji15) then (if (ji15) < (a0.size : Int) then (impl_MapTypes.j1 k1 a0 x4_1 x6_1 (wrap64 (bt a0 x6_1)) (wrap64 (bt a0 (ji6))) ((bt a0 (ji15)) == 0)) else (none)) else (none)) = some (r1, r2) := by first | (rw [hji15] at H; exact H) | (simp only [hji15] at H ⊢; exact H)
                          have hji15w : (IntKind.i64.wrap ((ji6) + (wrap64 (bt a0 (ji6))))) = ji15 := (i64_w _).trans hji15
                          by_cases c16 : 0 ≤ (ji15)
                          · rw [if_pos c16] at H
                            have c16b0 : decide (0 ≤ (ji15)) = true := decide_eq_true c16
                            clear c16
                            by_cases c17 : (ji15) < (a0.size : Int)
                            · rw [if_pos c17] at H
                              have c17b0 : decide ((ji15) < (a0.size : Int)) = true := decide_eq_true c17
                              clear c17
                              have H' := Aside0.mk H
                              clear H
                              have p18 : 0 ≤ ((ji15) : Int) := of_decide_eq_true (by first | (with_reducible assumption) | assumption)
                              have q18 : (ji15) < (a0.size : Int) := of_decide_eq_true (by first | (with_reducible assumption) | assumption)
                              have hx18 := bt_at a0 (ji15)
                              replace p18 := eq_true p18
                              replace q18 := eq_true q18
                              go_wp2
                              repeat (go_quiet (fail); try go_wp2)
                              go_meet
                              case rel => exact ⟨_, (((bt a0 (ji15)) == 0)), (by first | rfl | (simp; done) | (simp only [← hji15] <;> (first | rfl | simp)) | (simp [*]; done)), H', ⟨by have := HK1.out; first | omega | exact Nat.le_refl _⟩, ⟨by (with_reducible repeat (first | apply Kd.R_alloc | apply Kd.R_drewN | apply Kd.R_drew)); exact HO_4.out⟩, ⟨by repeat (first | (with_reducible first | exact HB.out | apply below_alloc | apply pw_below_drewN | apply below_drew1) | exact HB.out)⟩⟩
                            · rw [if_neg c17] at H
                              exact absurd H (by simp)
                          · rw [if_neg c16] at H
                            exact absurd H (by simp)
                case rest =>
                  clear HC10
                  try clear c1
                  try clear p1
                  try clear q1
                  try clear hx1
                  try clear c2
                  try clear c2b0
                  try clear p2
                  try clear c3
                  try clear c3b0
                  try clear c4
                  try clear c4b0
                  try clear p5
                  try clear q5
                  try clear hx5
                  try clear p6
                  try clear c7
                  try clear c7b0
                  try clear c8
                  try clear c8b0
                  try clear p9
                  try clear q9
                  try clear hx9
                  try clear c11
                  try clear c11b0
                  try clear c12
                  try clear c12b0
                  try clear c13
                  try clear c13b0
                  try clear c14
                  try clear c14b0
                  try clear c16
                  try clear c16b0
                  try clear c17
                  try clear c17b0
                  try clear p18
                  try clear q18
                  try clear hx18
                  try clear p18
                  try clear p5
                  try clear p9
                  try clear q18
                  try clear q5
                  try clear q9
                  obtain ⟨kq, x57_9, rfl, HA, HJ9, HO_4, HB⟩ := hcut
                  cases kq with
                  | zero => exact absurd HA.out (by simp [impl_MapTypes.j1])
                  | succ kj9 =>
                    have H := HA.out
                    clear HA
                    simp only [impl_MapTypes.j1] at H
                    by_cases c19 : x57_9 = true
                    · subst c19
                      have H1 : (some (([] : List Int), 7)) = some (r1, r2) := by rw [if_pos rfl] at H; exact H
                      clear H
                      have H := H1
                      clear H1
                      simp only [Option.some.injEq, Prod.mk.injEq] at H
                      obtain ⟨rfl, rfl⟩ := H
                      go_wp2
                      repeat (go_quiet (fail); try go_wp2)
                      go_ret2
                      exact ⟨_, by first | rfl | (simp [errW_none, errW_some] <;> rfl) | (simp only [← hji6]; first | rfl | (simp [errW_none, errW_some] <;> rfl)) | (simp [*, errW_none, errW_some] <;> rfl), by first | exact Kd.R_nil _ _ _ _ _ | exact Kd.N_nil _ _ _ _ _ | exact Kd.V_nil _ _ _ _ _ | exact Kd.Q_nil _ _ _ _ _ | exact Kd.S_nil _ _ _ _ _, by repeat (first | (with_reducible first | exact HB.out | apply below_alloc | apply pw_below_drewN | apply below_drew1) | exact HB.out)⟩
                    · replace c19 := Bool.eq_false_iff.mpr c19
                      subst c19
                      have H1 : (impl_MapTypes.l1 kj9 a0 x4_1 (wrap64 (bt a0 x6_1)) x6_1 (wrap64 (bt a0 x6_1)) (wrap64 (bt a0 (ji6))) 0) = some (r1, r2) := by rw [if_neg (show ¬ (false = true) by decide)] at H; exact H
                      clear H
                      have H := H1
                      clear H1
                      have H' := Aside0.mk H
                      clear H
                      go_wp2
                      repeat (go_quiet (fail); try go_wp2)
                      go_loopg [4, 9] kj9 (fun kq v4 v9 w' => ∃ (x4_3 : List Int) (x9_3 : Int), v9 = .int .i64 x9_3 ∧ Aside0 (impl_MapTypes.l1 kq a0 x4_3 (wrap64 (bt a0 x6_1)) x6_1 (wrap64 (bt a0 x6_1)) (wrap64 (bt a0 (ji6))) x9_3 = some (r1, r2)) ∧ Aside0 (kq ≤ kj9) ∧ Aside0 (Kd.R (Kd.int .i64) 2 w' w.heap.size (fun _ => True) v4 x4_3) ∧ Aside0 (Below w.heap.size w w'))
                      case atStart => exact ⟨(x4_1), (0), (by first | rfl | (simp; done) | (simp [*]; done)), H', ⟨Nat.le_refl _⟩, ⟨by (with_reducible repeat (first | apply Kd.R_alloc | apply Kd.R_drewN | apply Kd.R_drew)); exact HO_4.out⟩, ⟨by repeat (first | (with_reducible first | exact HB.out | apply below_alloc | apply pw_below_drewN | apply below_drew1) | exact HB.out)⟩⟩
                      case round =>
                        clear H'
                        try clear c1
                        try clear p1
                        try clear q1
                        try clear hx1
                        try clear c2
                        try clear c2b0
                        try clear p2
                        try clear c3
                        try clear c3b0
                        try clear c4
                        try clear c4b0
                        try clear p5
                        try clear q5
                        try clear hx5
                        try clear p6
                        try clear c7
                        try clear c7b0
                        try clear c8
                        try clear c8b0
                        try clear p9
                        try clear q9
                        try clear hx9
                        try clear c11
                        try clear c11b0
                        try clear c12
                        try clear c12b0
                        try clear c13
                        try clear c13b0
                        try clear c14
                        try clear c14b0
                        try clear c16
                        try clear c16b0
                        try clear c17
                        try clear c17b0
                        try clear p18
                        try clear q18
                        try clear hx18
                        try clear c19
                        try clear p1
                        try clear p18
                        try clear p2
                        try clear p5
                        try clear p6
                        try clear p9
                        try clear q1
                        try clear q18
                        try clear q5
                        try clear q9
                        obtain ⟨x4_3, x9_3, rfl, HA, HK3, HO_4, HB⟩ := hrel
                        cases gk with
                        | zero => exact absurd HA.out (by simp [impl_MapTypes.l1])
                        | succ k3 =>
                          have H := HA.out
                          clear HA
                          simp only [impl_MapTypes.l1] at H
                          by_cases c20 : x9_3 < (wrap64 (bt a0 (ji6)))
                          · rw [if_pos c20] at H
                            have c20b0 : decide (x9_3 < (wrap64 (bt a0 (ji6)))) = true := decide_eq_true c20
                            clear c20
                            have H' := Aside0.mk H
                            clear H
                            go_wp2
                            repeat (go_quiet (fail); try go_wp2)
                            go_loopg [4, 10] k3 (fun kq v4 v10 w' => ∃ (x4_4 : List Int) (x10_4 : Int), v10 = .int .i64 x10_4 ∧ Aside0 (impl_MapTypes.l2 kq a0 x4_4 (wrap64 (bt a0 x6_1)) x6_1 (wrap64 (bt a0 x6_1)) (wrap64 (bt a0 (ji6))) x9_3 x10_4 = some (r1, r2)) ∧ Aside0 (kq ≤ k3) ∧ Aside0 (Kd.R (Kd.int .i64) 2 w' w.heap.size (fun _ => True) v4 x4_4) ∧ Aside0 (Below w.heap.size w w'))
                            case atStart => exact ⟨(x4_3), (0), (by first | rfl | (simp; done) | (simp [*]; done)), H', ⟨Nat.le_refl _⟩, ⟨by (with_reducible repeat (first | apply Kd.R_alloc | apply Kd.R_drewN | apply Kd.R_drew)); exact HO_4.out⟩, ⟨by repeat (first | (with_reducible first | exact HB.out | apply below_alloc | apply pw_below_drewN | apply below_drew1) | exact HB.out)⟩⟩
                            case round =>
                              clear H'
                              try clear c1
                              try clear p1
                              try clear q1
                              try clear hx1
                              try clear c2
                              try clear c2b0
                              try clear p2
                              try clear c3
                              try clear c3b0
                              try clear c4
                              try clear c4b0
                              try clear p5
                              try clear q5
                              try clear hx5
                              try clear p6
                              try clear c7
                              try clear c7b0
                              try clear c8
                              try clear c8b0
                              try clear p9
                              try clear q9
                              try clear hx9
                              try clear c11
                              try clear c11b0
                              try clear c12
                              try clear c12b0
                              try clear c13
                              try clear c13b0
                              try clear c14
                              try clear c14b0
                              try clear c16
                              try clear c16b0
                              try clear c17
                              try clear c17b0
                              try clear p18
                              try clear q18
                              try clear hx18
                              try clear c19
                              try clear c20
                              try clear c20b0
                              try clear p1
                              try clear p18
                              try clear p2
                              try clear p5
                              try clear p6
                              try clear p9
                              try clear q1
                              try clear q18
                              try clear q5
                              try clear q9
                              obtain ⟨x4_4, x10_4, rfl, HA, HK4, HO_4, HB⟩ := hrel
                              cases gk with
                              | zero => exact absurd HA.out (by simp [impl_MapTypes.l2])
                              | succ k4 =>
                                have H := HA.out
                                clear HA
                                simp only [impl_MapTypes.l2] at H
                                by_cases c21 : x10_4 < 8
                                · rw [if_pos c21] at H
                                  have c21b0 : decide (x10_4 < 8) = true := decide_eq_true c21
                                  clear c21
                                  obtain ⟨ji22, hji22⟩ : ∃ j_ : Int, (wrap64 ((wrap64 (x6_1 + 2)) + x9_3)) = j_ := ⟨_, rfl⟩
                                  replace H : (if 0 ≤ (ji22) then (if (ji22) < (a0.size : Int) then (if 0 ≤ (wrap64 (7 - x10_4)) then (if (Go.bits .and .u8 (shr .u8 (bt a0 (ji22)) (wrap64 (7 - x10_4))) 1) = 1 then (if x4_4.length < 17592186044416 then (impl_MapTypes.l2 k4 a0 (x4_4 ++ [wrap64 ((wrap64 ((wrap64 (256 * (wrap64 (bt a0 x6_1)))) + (wrap64 (8 * x9_3)))) + x10_4)]) (wrap64 (bt a0 x6_1)) x6_1 (wrap64 (bt a0 x6_1)) (wrap64 (bt a0 (ji6))) x9_3 (wrap64 (x10_4 + 1))) else (none)) else (impl_MapTypes.l2 k4 a0 x4_4 (wrap64 (bt a0 x6_1)) x6_1 (wrap64 (bt a0 x6_1)) (wrap64 (bt a0 (ji6))) x9_3 (wrap64 (x10_4 + 1)))) else (none)) else (none)) else (none)) = some (r1, r2) := by first | (rw [hji22] at H; exact H) | (simp only [hji22] at H ⊢; exact H)
                                  have hji22w : (IntKind.i64.wrap ((wrap64 (x6_1 + 2)) + x9_3)) = ji22 := (i64_w _).trans hji22
                                  by_cases c23 : 0 ≤ (ji22)
                                  · rw [if_pos c23] at H
                                    have c23b0 : decide (0 ≤ (ji22)) = true := decide_eq_true c23
                                    clear c23
                                    by_cases c24 : (ji22) < (a0.size : Int)
                                    · rw [if_pos c24] at H
                                      have c24b0 : decide ((ji22) < (a0.size : Int)) = true := decide_eq_true c24
                                      clear c24
                                      obtain ⟨ji26, hji26⟩ : ∃ j_ : Int, (wrap64 (7 - x10_4)) = j_ := ⟨_, rfl⟩
                                      replace H : (if 0 ≤ (ji26) then (if (Go.bits .and .u8 (shr .u8 (bt a0 (ji22)) (ji26)) 1) = 1 then (if x4_4.length < 17592186044416 then (impl_MapTypes.l2 k4 a0 (x4_4 ++ [wrap64 ((wrap64 ((wrap64 (256 * (wrap64 (bt a0 x6_1)))) + (wrap64 (8 * x9_3)))) + x10_4)]) (wrap64 (bt a0 x6_1)) x6_1 (wrap64 (bt a0 x6_1)) (wrap64 (bt a0 (ji6))) x9_3 (wrap64 (x10_4 + 1))) else (none)) else (impl_MapTypes.l2 k4 a0 x4_4 (wrap64 (bt a0 x6_1)) x6_1 (wrap64 (bt a0 x6_1)) (wrap64 (bt a0 (ji6))) x9_3 (wrap64 (x10_4 + 1)))) else (none)) = some (r1, r2) := by first | (rw [hji26] at H; exact H) | (simp only [hji26] at H ⊢; exact H)
                                      have hji26w : (IntKind.i64.wrap (7 - x10_4)) = ji26 := (i64_w _).trans hji26
                                      by_cases c27 : 0 ≤ (ji26)
                                      · rw [if_pos c27] at H
                                        have c27b0 := eq_true c27
                                        have c27b1 : decide (0 ≤ (ji26)) = true := decide_eq_true c27
                                        clear c27
                                        obtain ⟨ji28, hji28⟩ : ∃ j_ : Int, (shr .u8 (bt a0 (ji22)) (ji26)) = j_ := ⟨_, rfl⟩
                                        replace H : (if (Go.bits .and .u8 (ji28) 1) = 1 then (if x4_4.length < 17592186044416 then (impl_MapTypes.l2 k4 a0 (x4_4 ++ [wrap64 ((wrap64 ((wrap64 (256 * (wrap64 (bt a0 x6_1)))) + (wrap64 (8 * x9_3)))) + x10_4)]) (wrap64 (bt a0 x6_1)) x6_1 (wrap64 (bt a0 x6_1)) (wrap64 (bt a0 (ji6))) x9_3 (wrap64 (x10_4 + 1))) else (none)) else (impl_MapTypes.l2 k4 a0 x4_4 (wrap64 (bt a0 x6_1)) x6_1 (wrap64 (bt a0 x6_1)) (wrap64 (bt a0 (ji6))) x9_3 (wrap64 (x10_4 + 1)))) = some (r1, r2) := by first | (rw [hji28] at H; exact H) | (simp only [hji28] at H ⊢; exact H)
                                        have hji28_ : ((bt a0 (ji22)) / 2 ^ min (ji26).toNat 8) = ji28 := hji28
                                        have hji28z : (ji26) ≤ 8 → ((bt a0 (ji22)) / 2 ^ (ji26).toNat) = ji28 := shr_small hji28
                                        by_cases c29 : (Go.bits .and .u8 (ji28) 1) = 1
                                        · rw [if_pos c29] at H
                                          have c29b0 : ((Go.bits .and .u8 (ji28) 1) == 1) = true := beq_iff_eq.mpr c29
                                          have c29b1 : ((Go.bits .and .u8 (ji28) 1) != 1) = false := bne_eq_false_iff_eq.mpr c29
                                          clear c29
                                          by_cases c30 : x4_4.length < 17592186044416
                                          · rw [if_pos c30] at H
                                            have LMc30 := Aside0.mk c30
                                            clear c30
                                            obtain ⟨y101, hy101⟩ : ∃ y_ : List Int, y_ = (x4_4 ++ [wrap64 ((wrap64 ((wrap64 (256 * (wrap64 (bt a0 x6_1)))) + (wrap64 (8 * x9_3)))) + x10_4)]) := ⟨_, rfl⟩
                                            replace H : (impl_MapTypes.l2 k4 a0 y101 (wrap64 (bt a0 x6_1)) x6_1 (wrap64 (bt a0 x6_1)) (wrap64 (bt a0 (ji6))) x9_3 (wrap64 (x10_4 + 1))) = some (r1, r2) := by first | (rw [hy101]; with_reducible exact H) | (have H2_ := (Option.bind_some _ _).symm.trans H; rw [hy101]; with_reducible exact H2_) | (have H2_ := (Option.bind_some _ _).symm.trans H; with_reducible exact H2_) | with_reducible exact H | (rw [hy101]; exact H) | exact H
                                            have Ny101 := Aside0.mk hy101
                                            clear hy101
                                            have H' := Aside0.mk H
                                            clear H
                                            have p25 : 0 ≤ ((ji22) : Int) := of_decide_eq_true (by first | (with_reducible assumption) | assumption)
                                            have q25 : (ji22) < (a0.size : Int) := of_decide_eq_true (by first | (with_reducible assumption) | assumption)
                                            have hx25 := bt_at a0 (ji22)
                                            replace p25 := eq_true p25
                                            replace q25 := eq_true q25
                                            go_wp2_with (first | ((with_reducible refine gate_builtin (b := .append) (xs := #[.tmp 79, .tmp 87]) rfl ?_); (try (refine gate_guard (by rfl) ?_; dsimp only)); at_builtin; refine Kd.R_append (Kd.int .i64) (w0 := w) w.heap.size rfl (.tmp 79) (.tmp 87) 88 2 (.int .i64 0) 8 rfl Tryd.underlying88 info2 rfl (by decide) (by omega) u4 x4_4 (wrap64 ((wrap64 ((wrap64 (256 * (wrap64 (bt a0 x6_1)))) + (wrap64 (8 * x9_3)))) + x10_4)) [.int .i64 (wrap64 ((wrap64 ((wrap64 (256 * (wrap64 (bt a0 x6_1)))) + (wrap64 (8 * x9_3)))) + x10_4))] (fun _ => True) (fun _ => False) rfl rfl ?aP (fun _ hk => hk.elim) ?aF ?aO ?aB ?aS ?aL ?_; (case aP => exact rfl); (case aB => exact (by repeat (first | (with_reducible first | exact HB.out | apply below_alloc | apply pw_below_drewN | apply below_drew1) | exact HB.out))); (case aF => exact (fun _ _ => trivial)); (case aO => exact (by (with_reducible repeat (first | apply Kd.R_alloc | apply Kd.R_drewN | apply Kd.R_drew)); exact HO_4.out)); (case aS => exact (below_size (by repeat (first | (with_reducible first | exact HB.out | apply below_alloc | apply pw_below_drewN | apply below_drew1) | exact HB.out)))); (case aL => have := LMc30.out; omega); intro v102 w31 ho hb hg hat; rw [← Ny101.out] at ho; have n0_ := Aside0.mk (hb); have n1_ := Aside0.mk (ho); clear HB; clear HO_4; have HB := n0_; have HO103 := n1_; clear n0_ n1_; clear ho hb hg hat))
                                            repeat (go_quiet (first | ((with_reducible refine gate_builtin (b := .append) (xs := #[.tmp 79, .tmp 87]) rfl ?_); (try (refine gate_guard (by rfl) ?_; dsimp only)); at_builtin; refine Kd.R_append (Kd.int .i64) (w0 := w) w.heap.size rfl (.tmp 79) (.tmp 87) 88 2 (.int .i64 0) 8 rfl Tryd.underlying88 info2 rfl (by decide) (by omega) u4 x4_4 (wrap64 ((wrap64 ((wrap64 (256 * (wrap64 (bt a0 x6_1)))) + (wrap64 (8 * x9_3)))) + x10_4)) [.int .i64 (wrap64 ((wrap64 ((wrap64 (256 * (wrap64 (bt a0 x6_1)))) + (wrap64 (8 * x9_3)))) + x10_4))] (fun _ => True) (fun _ => False) rfl rfl ?aP (fun _ hk => hk.elim) ?aF ?aO ?aB ?aS ?aL ?_; (case aP => exact rfl); (case aB => exact (by repeat (first | (with_reducible first | exact HB.out | apply below_alloc | apply pw_below_drewN | apply below_drew1) | exact HB.out))); (case aF => exact (fun _ _ => trivial)); (case aO => exact (by (with_reducible repeat (first | apply Kd.R_alloc | apply Kd.R_drewN | apply Kd.R_drew)); exact HO_4.out)); (case aS => exact (below_size (by repeat (first | (with_reducible first | exact HB.out | apply below_alloc | apply pw_below_drewN | apply below_drew1) | exact HB.out)))); (case aL => have := LMc30.out; omega); intro v102 w31 ho hb hg hat; rw [← Ny101.out] at ho; have n0_ := Aside0.mk (hb); have n1_ := Aside0.mk (ho); clear HB; clear HO_4; have HB := n0_; have HO103 := n1_; clear n0_ n1_; clear ho hb hg hat)); try go_wp2_with (first | ((with_reducible refine gate_builtin (b := .append) (xs := #[.tmp 79, .tmp 87]) rfl ?_); (try (refine gate_guard (by rfl) ?_; dsimp only)); at_builtin; refine Kd.R_append (Kd.int .i64) (w0 := w) w.heap.size rfl (.tmp 79) (.tmp 87) 88 2 (.int .i64 0) 8 rfl Tryd.underlying88 info2 rfl (by decide) (by omega) u4 x4_4 (wrap64 ((wrap64 ((wrap64 (256 * (wrap64 (bt a0 x6_1)))) + (wrap64 (8 * x9_3)))) + x10_4)) [.int .i64 (wrap64 ((wrap64 ((wrap64 (256 * (wrap64 (bt a0 x6_1)))) + (wrap64 (8 * x9_3)))) + x10_4))] (fun _ => True) (fun _ => False) rfl rfl ?aP (fun _ hk => hk.elim) ?aF ?aO ?aB ?aS ?aL ?_; (case aP => exact rfl); (case aB => exact (by repeat (first | (with_reducible first | exact HB.out | apply below_alloc | apply pw_below_drewN | apply below_drew1) | exact HB.out))); (case aF => exact (fun _ _ => trivial)); (case aO => exact (by (with_reducible repeat (first | apply Kd.R_alloc | apply Kd.R_drewN | apply Kd.R_drew)); exact HO_4.out)); (case aS => exact (below_size (by repeat (first | (with_reducible first | exact HB.out | apply below_alloc | apply pw_below_drewN | apply below_drew1) | exact HB.out)))); (case aL => have := LMc30.out; omega); intro v102 w31 ho hb hg hat; rw [← Ny101.out] at ho; have n0_ := Aside0.mk (hb); have n1_ := Aside0.mk (ho); clear HB; clear HO_4; have HB := n0_; have HO103 := n1_; clear n0_ n1_; clear ho hb hg hat)))
                                            go_roundg k4
                                            case measure => have := HK1.out; have := HJ9.out; have := HK3.out; have := HK4.out; omega
                                            case rel => exact ⟨(y101), (wrap64 (x10_4 + 1)), (by first | rfl | (simp; done) | (simp [*]; done)), H', ⟨by have := HK1.out; have := HJ9.out; have := HK3.out; have := HK4.out; omega⟩, ⟨by (with_reducible repeat (first | apply Kd.R_alloc | apply Kd.R_drewN | apply Kd.R_drew)); exact HO103.out⟩, ⟨by repeat (first | (with_reducible first | exact HB.out | apply below_alloc | apply pw_below_drewN | apply below_drew1) | exact HB.out)⟩⟩
                                          · rw [if_neg c30] at H
                                            exact absurd H (by simp)
                                        · rw [if_neg c29] at H
                                          have c29b0 : ((Go.bits .and .u8 (ji28) 1) == 1) = false := beq_eq_false_iff_ne.mpr c29
                                          have c29b1 : ((Go.bits .and .u8 (ji28) 1) != 1) = true := bne_iff_ne.mpr c29
                                          have H' := Aside0.mk H
                                          clear H
                                          have p25 : 0 ≤ ((ji22) : Int) := of_decide_eq_true (by first | (with_reducible assumption) | assumption)
                                          have q25 : (ji22) < (a0.size : Int) := of_decide_eq_true (by first | (with_reducible assumption) | assumption)
                                          have hx25 := bt_at a0 (ji22)
                                          replace p25 := eq_true p25
                                          replace q25 := eq_true q25
                                          go_wp2
                                          repeat (go_quiet (fail); try go_wp2)
                                          go_roundg k4
                                          case measure => have := HK1.out; have := HJ9.out; have := HK3.out; have := HK4.out; omega
                                          case rel => exact ⟨(x4_4), (wrap64 (x10_4 + 1)), (by first | rfl | (simp; done) | (simp [*]; done)), H', ⟨by have := HK1.out; have := HJ9.out; have := HK3.out; have := HK4.out; omega⟩, ⟨by (with_reducible repeat (first | apply Kd.R_alloc | apply Kd.R_drewN | apply Kd.R_drew)); exact HO_4.out⟩, ⟨by repeat (first | (with_reducible first | exact HB.out | apply below_alloc | apply pw_below_drewN | apply below_drew1) | exact HB.out)⟩⟩
                                      · rw [if_neg c27] at H
                                        exact absurd H (by simp)
                                    · rw [if_neg c24] at H
                                      exact absurd H (by simp)
                                  · rw [if_neg c23] at H
                                    exact absurd H (by simp)
                                · rw [if_neg c21] at H
                                  have c21b0 : decide (x10_4 < 8) = false := decide_eq_false c21
                                  clear c21
                                  have H' := Aside0.mk H
                                  clear H
                                  go_wp2
                                  repeat (go_quiet (fail); try go_wp2)
                                  go_roundg k4
                                  case measure => have := HK1.out; have := HJ9.out; have := HK3.out; have := HK4.out; omega
                                  case rel => exact ⟨(x4_4), (wrap64 (x9_3 + 1)), (by first | rfl | (simp; done) | (simp [*]; done)), H', ⟨by have := HK1.out; have := HJ9.out; have := HK3.out; have := HK4.out; omega⟩, ⟨by (with_reducible repeat (first | apply Kd.R_alloc | apply Kd.R_drewN | apply Kd.R_drew)); exact HO_4.out⟩, ⟨by repeat (first | (with_reducible first | exact HB.out | apply below_alloc | apply pw_below_drewN | apply below_drew1) | exact HB.out)⟩⟩
                          · rw [if_neg c20] at H
                            have c20b0 : decide (x9_3 < (wrap64 (bt a0 (ji6)))) = false := decide_eq_false c20
                            clear c20
                            have H' := Aside0.mk H
                            clear H
                            go_wp2
                            repeat (go_quiet (fail); try go_wp2)
                            go_roundg k3
                            case measure => have := HK1.out; have := HJ9.out; have := HK3.out; omega
                            case rel => exact ⟨(x4_3), ((wrap64 (bt a0 x6_1))), (wrap64 (x6_1 + (wrap64 (2 + (wrap64 (bt a0 (ji6))))))), (by first | rfl | (simp; done) | (simp [*]; done)), (by first | rfl | (simp; done) | (simp only [← hji6] <;> (first | rfl | simp)) | (simp [*]; done)), H', ⟨by have := HK1.out; have := HJ9.out; have := HK3.out; omega⟩, ⟨by (with_reducible repeat (first | apply Kd.R_alloc | apply Kd.R_drewN | apply Kd.R_drew)); exact HO_4.out⟩, ⟨by repeat (first | (with_reducible first | exact HB.out | apply below_alloc | apply pw_below_drewN | apply below_drew1) | exact HB.out)⟩⟩
              · rw [if_neg c8] at H
                exact absurd H (by simp)
            · rw [if_neg c7] at H
              exact absurd H (by simp)
          · rw [if_neg c4] at H
            exact absurd H (by simp)
      · rw [if_neg c2] at H
        have c2b0 : decide (x6_1 < (a0.size : Int)) = false := decide_eq_false c2
        clear c2
        simp only [Option.some.injEq, Prod.mk.injEq] at H
        obtain ⟨rfl, rfl⟩ := H
        go_wp2
        repeat (go_quiet (fail); try go_wp2)
        go_ret2
        exact ⟨_, by first | rfl | (simp [errW_none, errW_some] <;> rfl) | (simp [*, errW_none, errW_some] <;> rfl), by (with_reducible repeat (first | apply Kd.R_alloc | apply Kd.R_drewN | apply Kd.R_drew)); exact HO_4.out, by repeat (first | (with_reducible first | exact HB.out | apply below_alloc | apply pw_below_drewN | apply below_drew1) | exact HB.out)⟩

end Go.Proofs.YtcamchdenjpmhaaDoor.F
namespace Go.Proofs.YtcamchdenjpmhaaDoor.F
open Go Go.Shelf Go.RowKit Go.Proofs.YtcamchdenjpmhaaDoorW.PrintWords Go.Proofs.YtcamchdenjpmhaaDoorW.PrintLast Go.Proofs.YtcamchdenjpmhaaDoorW.PrintMore
attribute [local go_sem] max2_int min2_int max_two min_two max_three min_three max_four min_four   -- for this text's walks alone
set_option linter.unusedVariables false
set_option linter.unusedSimpArgs false

/-! ### stands 9 -/
-- stands: the boxes, the iterator and the spans of 'parsed'
def PInv (w : World) (form s : ByteArray) (wr : World) (pos at_ : Nat) (v : Value) (sp : List S87) : Prop :=
  wr.heap[w.heap.size]? = some (.cells #[.string s] 9 (0, 0)) ∧ wr.heap[w.heap.size + 1]? = some (.cells #[.int .i64 (at_ : Int)] 3 (0, 0)) ∧ wr.heap[w.heap.size + 1 + 1]? = some (.stringIter form pos) ∧
  Kd.R k87 87 wr w.heap.size (fun k => k ≠ w.heap.size ∧ k ≠ w.heap.size + 1 ∧ k ≠ w.heap.size + 1 + 1) v sp ∧ Below w.heap.size w wr
section
variable {w wr W : World} {form s : ByteArray} {pos at_ : Nat} {v : Value} {sp : List S87}
theorem PInv.below (h : PInv w form s wr pos at_ v sp) (hb : Below wr.heap.size wr W) : PInv w form s W pos at_ v sp :=
  ⟨blk_below h.1 hb, blk_below h.2.1 hb, blk_below h.2.2.1 hb, Kd.R_below h.2.2.2.1 hb, below_step h.2.2.2.2 hb⟩
theorem PInv.alloc (h : PInv w form s wr pos at_ v sp) (o : Obj) : PInv w form s (wr.alloc o) pos at_ v sp := h.below (below_alloc (Below.refl _ _) o)
theorem PInv.drew (h : PInv w form s wr pos at_ v sp) : PInv w form s wr.drew pos at_ v sp := h.below (below_drew (Below.refl _ _))
theorem PInv.drewN (h : PInv w form s wr pos at_ v sp) (n : Nat) : PInv w form s (wr.drewN n) pos at_ v sp := h.below (pw_below_drewN (Below.refl _ _) n)
theorem PInv.put (h : PInv w form s wr pos at_ v sp) (b : Nat) : PInv w form s (wr.setCell ⟨w.heap.size + 1, 0, none⟩ (.int .i64 (b : Int))) pos b v sp := by
  obtain ⟨h0, h1, h2, h3, h4⟩ := h
  have hne : ∀ k, k ≠ w.heap.size + 1 → (wr.setCell ⟨w.heap.size + 1, 0, none⟩ (.int .i64 (b : Int))).heap[k]? = wr.heap[k]? := fun k hk => Below.heap_setCell wr _ _ k hk
  exact ⟨(hne _ (by omega)).trans h0, one_setCell h1, (hne _ (by omega)).trans h2, Kd.R_step h3 (fun k hk _ => hne k hk.2.1), h4.setCell (by show w.heap.size ≤ w.heap.size + 1; omega) _⟩
theorem PInv.spans (h : PInv w form s wr pos at_ v sp) {v1 : Value} {sp1 : List S87} (hr : Kd.R k87 87 W w.heap.size (fun k => k ≠ w.heap.size ∧ k ≠ w.heap.size + 1 ∧ k ≠ w.heap.size + 1 + 1) v1 sp1) (hb : Below w.heap.size w W) (hg : wr.grownBy W v.ownBlock) : PInv w form s W pos at_ v1 sp1 := by
  obtain ⟨h0, h1, h2, h3, h4⟩ := h
  have hk := h3.1
  have hne : ∀ k o, wr.heap[k]? = some o → (k = w.heap.size ∨ k = w.heap.size + 1 ∨ k = w.heap.size + 1 + 1) → W.heap[k]? = some o := by
    intro k o ho hc
    refine (hg.block k (lt_of_block ho) (fun e => ?_)).trans ho
    have := hk k e.symm
    omega
  exact ⟨hne _ _ h0 (by omega), hne _ _ h1 (by omega), hne _ _ h2 (by omega), hr, hb⟩
theorem PInv.next_ {P : Program} (h : PInv w form s wr pos at_ v sp) (hp : pos < form.size) (ha : (form[pos]'hp).toNat < 128) :
    ∃ W, (∀ ty, (Instr.next (.pointer (some ⟨w.heap.size + 1 + 1, 0, none⟩)) true ty).run P wr = .ok (.tuple #[.bool true, .int .i64 pos, .int .i32 (form[pos]'hp).toNat]) W) ∧ PInv w form s W (pos + 1) at_ v sp := by
  obtain ⟨h0, h1, h2, h3, h4⟩ := h
  have hlt := lt_of_block h2
  have hne : ∀ k, k ≠ w.heap.size + 1 + 1 → (wr.heap.setIfInBounds (w.heap.size + 1 + 1) (.stringIter form (pos + 1)))[k]? = wr.heap[k]? := fun k hk => by
    rw [Array.getElem?_setIfInBounds, if_neg (fun e => hk e.symm)]
  refine ⟨{ wr with heap := wr.heap.setIfInBounds (w.heap.size + 1 + 1) (.stringIter form (pos + 1)) }, fun ty => ?_, ?_, ?_, ?_, ?_, ?_⟩
  · simp only [Instr.next, getObj, setObj, Sem.run_bind, Sem.run, h2, Result.andThen, hp, if_true, decode_ascii form pos hp ha]
    simp [goInt, Sem.run, h2]
  · exact (hne _ (by omega)).trans h0
  · exact (hne _ (by omega)).trans h1
  · show (wr.heap.setIfInBounds _ _)[_]? = _
    rw [Array.getElem?_setIfInBounds, if_pos rfl, if_pos hlt]
  · exact Kd.R_step h3 (fun k hk _ => hne k hk.2.2)
  · refine ⟨h4.os, h4.tape, h4.output, ?_, fun k hk => ?_⟩
    · show w.heap.size ≤ (wr.heap.setIfInBounds _ _).size
      rw [Array.size_setIfInBounds]
      exact h4.size
    · exact (hne k (by omega)).trans (h4.block k hk)
theorem PInv.end_ {P : Program} (h : PInv w form s wr pos at_ v sp) (hp : ¬ pos < form.size) (ty : TypeId) :
    (Instr.next (.pointer (some ⟨w.heap.size + 1 + 1, 0, none⟩)) true ty).run P wr = .ok (.tuple #[.bool false]) wr := by
  simp [Instr.next, getObj, Sem.run, h.2.2.1, hp]
end

end Go.Proofs.YtcamchdenjpmhaaDoor.F
namespace Go.Proofs.YtcamchdenjpmhaaDoor.F
open Go Go.Shelf Go.RowKit Go.Proofs.YtcamchdenjpmhaaDoorW.PrintWords Go.Proofs.YtcamchdenjpmhaaDoorW.PrintLast Go.Proofs.YtcamchdenjpmhaaDoorW.PrintMore
attribute [local go_sem] max2_int min2_int max_two min_two max_three min_three max_four min_four   -- for this text's walks alone
set_option linter.unusedVariables false
set_option linter.unusedSimpArgs false

/-! ### impl_parsed: function 41 -/
theorem impl_parsed.rest (w : World) (b0 b1 : Nat) (s : ByteArray) (at_ : Nat) (h0 : w.heap[b0]? = some (.cells #[.string s] 9 (0, 0))) (h1 : w.heap[b1]? = some (.cells #[.int .i64 (at_ : Int)] 3 (0, 0))) (hat : at_ ≤ s.size) :
    Calls Tryd.prog 45 #[.pointer (some ⟨b0, 0, none⟩), .pointer (some ⟨b1, 0, none⟩)] w fun e w' => e = .returned (.string (s.extract at_ s.size)) ∧ w' = w := by
  have q0 := cell_of_row w b0 0 _ _ _ h0
  have q1 := cell_of_row w b1 0 _ _ _ h1
  have hle : ((at_ : Int) ≤ (s.size : Int)) = True := eq_true (by omega)
  go_enter Tryd.func45, Tryd.ntmps45
  go_wp2
  go_ret
  exact ⟨rfl, rfl⟩
def impl_parsed.tEnd (s : ByteArray) : Nat → Nat → Nat
  | 0, k => k
  | d + 1, k => if k < s.size then impl_parsed.tEnd s d (k + 1 + (bt s (k : Int)).toNat) else k
def impl_parsed.alnum (c : Int) : Bool := (decide (48 ≤ c) && decide (c ≤ 57)) || ((decide (97 ≤ c) && decide (c ≤ 122)) || (decide (65 ≤ c) && decide (c ≤ 90)))
def impl_parsed.n (K : Nat) (c : Int) (s : ByteArray) (p : Nat) : Option (Option Int) :=
  if c = 49 then some (some 1) else if c = 50 then some (some 2) else if c = 52 ∨ c = 103 ∨ c = 113 then some (some 4)
  else if c = 110 then (impl_nameAt.f K (s.extract p s.size)).bind fun n => some (if n = 0 then none else some n)
  else if c = 116 then some (if s.size ≤ p then none else some (1 + bt s (p : Int)))
  else if c = 99 then some (if s.size ≤ p then none else if 1 + bt s (p : Int) < 2 then none else if 16 < 1 + bt s (p : Int) then none else if (s.size : Int) < (p : Int) + (1 + bt s (p : Int)) then none else if (bytesOf (s.extract (p + 1) (p + (1 + bt s (p : Int)).toNat))).all impl_parsed.alnum then some (1 + bt s (p : Int)) else none)
  else if c = 84 then some (if impl_parsed.tEnd s (s.size - p) p = p then none else some ((impl_parsed.tEnd s (s.size - p) p : Int) - p))
  else if c = 109 then (impl_MapTypes.f K (s.extract p s.size)).bind fun r => some (if r.2 = 0 then some ((s.size : Int) - p) else none)
  else if c = 42 then some (some ((s.size : Int) - p)) else none
def impl_parsed.go (K : Nat) (s : ByteArray) : List UInt8 → Nat → List S87 → Option (List S87 × Bool)
  | [], p, sp => some (sp, (p : Int) == (s.size : Int))
  | c :: r, p, sp => (impl_parsed.n K (c.toNat : Int) s p).bind fun o => match o with
    | none => some ([], false)
    | some n => if n < 0 ∨ 4611686018427387904 < n then none else if (s.size : Int) < (p : Int) + n then some ([], false) else impl_parsed.go K s r (p + n.toNat) (if (c.toNat : Int) = 110 then sp ++ [⟨p, (p : Int) + n⟩] else sp)
def impl_parsed.f (k : Nat) (a0 : Int) (a1 : ByteArray) : Option (List S87 × Bool) :=
  if 140737488355328 < a1.size then none else if (Lit.int .i64 a0).wf = true then (match formOf a0 with | none => some ([], true) | some form => impl_parsed.go k a1 form.data.toList 0 []) else none
set_option maxHeartbeats 8000000 in
set_option maxRecDepth 100000 in
theorem impl_parsed.some_ (K : Nat) (rt : Int) (s : ByteArray) (form : ByteArray) (hf : formOf rt = some form) (hwf : (Lit.int .i64 rt).wf = true) (hasc : ∀ c ∈ form.data.toList, c.toNat < 128) (hfs : form.size ≤ 100) (hs : s.size ≤ 140737488355328)
    (r1 : List S87) (r2 : Bool) (w : World) (hG : Glob w) (h : impl_parsed.go K s form.data.toList 0 [] = some (r1, r2)) :
    Calls Tryd.prog 41 #[.int .i64 rt, .string s] w fun e w' => ∃ v0_ : Value, e = .returned (.tuple #[v0_, .bool r2]) ∧ Kd.R k87 87 w' w.heap.size (fun _ => True) v0_ r1 ∧ Below w.heap.size w w' := by
  have hG1 := hG.alloc (.cells #[.string s] 9)
  obtain ⟨bm, og, om, g1, g2, g3, g4⟩ := hG1
  have hc0 := g3 _ g1
  have hlk := g4 _ rt g2 hwf
  rw [hf] at hlk
  simp only [Option.getD_some, Option.isSome_some] at hlk
  clear g1 g2 g3 g4 hf hwf
  have HH := Aside0.mk h
  have HA := Aside0.mk hasc
  have HS := Aside0.mk hs
  have HF := Aside0.mk hfs
  clear h hasc hs hfs
  have hz : ∀ (W : World) o, (W.alloc o).heap.size = W.heap.size + 1 := fun _ _ => Array.size_push _
  go_enter Tryd.func41, Tryd.ntmps41
  go_wp2
  clear hc0 hlk hG
  go_loopg [8] (form.size + 1) (fun kq v8 wr => ∃ (pos p : Nat) (sp : List S87), Aside0 (kq + pos = form.size + 1) ∧ Aside0 (pos ≤ form.size) ∧ Aside0 (sp.length ≤ pos) ∧ Aside0 (p ≤ s.size) ∧ Aside0 (PInv w form s wr pos p v8 sp) ∧ Aside0 (impl_parsed.go K s (form.data.toList.drop pos) p sp = some (r1, r2)))
  case atStart =>
    refine ⟨0, 0, [], ⟨rfl⟩, ⟨Nat.zero_le _⟩, ⟨Nat.le_refl _⟩, ⟨Nat.zero_le _⟩, ⟨?_, ?_, ?_, ?_, ?_⟩, ⟨HH.out⟩⟩
    · exact blk_alloc (blk_alloc (blk_new w _) _) _
    · have e := blk_new (w.alloc (.cells #[.string s] 9)) (.cells #[.int .i64 0] 3)
      rw [hz] at e
      exact blk_alloc e _
    · have e := World.iter_heap ((w.alloc (.cells #[.string s] 9)).alloc (.cells #[.int .i64 0] 3)) form 0
      rw [hz, hz] at e
      exact e
    · exact Kd.R_nil _ _ _ _ _
    · exact below_alloc (below_alloc (below_alloc (Below.refl _ _) _) _) _
  case round =>
    clear hz
    obtain ⟨pos, p, sp, HK, HP, HL, HQ, HI, HO⟩ := hrel
    have hb0 := cell_of_one HI.out.1
    have hb1 := cell_of_one HI.out.2.1
    by_cases hpf : pos < form.size
    · have hlen : pos < form.data.toList.length := by simpa using hpf
      have hdrop : form.data.toList.drop pos = form[pos] :: form.data.toList.drop (pos + 1) := by
        rw [List.drop_eq_getElem_cons hlen]
        rfl
      have hO := HO.out
      rw [hdrop, impl_parsed.go] at hO
      have hasc : (form[pos]'hpf).toNat < 128 := HA.out _ (by
        have : form[pos] ∈ form.data.toList.drop pos := by rw [hdrop]; simp
        exact List.mem_of_mem_drop this)
      obtain ⟨W, hnx, hI⟩ := PInv.next_ (P := Tryd.prog) HI.out hpf hasc
      have HO2 := Aside0.mk hO
      clear hO HO
      have HI2 := Aside0.mk hI
      clear hI
      generalize hcc : ((form[pos]'hpf).toNat : Int) = c at hnx HO2
      have hcn : (((form[pos]'hpf).toNat : Nat) : Int) = c := hcc
      have HCC := Aside0.mk hcc
      clear hdrop hlen hcc hcn hasc
      go_upto_block 2 with fail
      clear hb0 hb1 hnx
      go_cut [8, 13] (fun v8' v13 wc => ∃ (n : Int) (sp' : List S87), v13 = .int .i64 n ∧ Aside0 (0 ≤ n ∧ n ≤ 4611686018427387904) ∧ Aside0 (sp'.length ≤ pos + 1) ∧ Aside0 (PInv w form s wc (pos + 1) p v8' sp') ∧ Aside0 ((if (s.size : Int) < (p : Int) + n then some ([], false) else impl_parsed.go K s (form.data.toList.drop (pos + 1)) (p + n.toNat) sp') = some (r1, r2)))
      case first =>
        have hb0 := cell_of_one HI2.out.1
        have hb1 := cell_of_one HI2.out.2.1
        have hO := HO2.out
        clear HO2
        by_cases h49 : c = 49
        · subst h49
          have e1 : impl_parsed.n K 49 s p = some (some 1) := by unfold impl_parsed.n; simp
          rw [e1, Option.bind_some] at hO
          have HO3 := Aside0.mk hO
          clear hO
          go_wp2
          go_meet
          case rel => exact ⟨1, sp, by rfl, ⟨by omega⟩, ⟨by have := HL.out; omega⟩, HI2, ⟨by have := HO3.out; simpa using this⟩⟩
        by_cases h50 : c = 50
        · subst h50
          have e1 : impl_parsed.n K 50 s p = some (some 2) := by unfold impl_parsed.n; simp
          rw [e1, Option.bind_some] at hO
          have HO3 := Aside0.mk hO
          clear hO
          go_wp2
          go_meet
          case rel => exact ⟨2, sp, by rfl, ⟨by omega⟩, ⟨by have := HL.out; omega⟩, HI2, ⟨by have := HO3.out; simpa using this⟩⟩
        by_cases h52 : c = 52
        · subst h52
          have e1 : impl_parsed.n K 52 s p = some (some 4) := by unfold impl_parsed.n; simp
          rw [e1, Option.bind_some] at hO
          have HO3 := Aside0.mk hO
          clear hO
          go_wp2
          go_meet
          case rel => exact ⟨4, sp, by rfl, ⟨by omega⟩, ⟨by have := HL.out; omega⟩, HI2, ⟨by have := HO3.out; simpa using this⟩⟩
        by_cases h103 : c = 103
        · subst h103
          have e1 : impl_parsed.n K 103 s p = some (some 4) := by unfold impl_parsed.n; simp
          rw [e1, Option.bind_some] at hO
          have HO3 := Aside0.mk hO
          clear hO
          go_wp2
          go_meet
          case rel => exact ⟨4, sp, by rfl, ⟨by omega⟩, ⟨by have := HL.out; omega⟩, HI2, ⟨by have := HO3.out; simpa using this⟩⟩
        by_cases h113 : c = 113
        · subst h113
          have e1 : impl_parsed.n K 113 s p = some (some 4) := by unfold impl_parsed.n; simp
          rw [e1, Option.bind_some] at hO
          have HO3 := Aside0.mk hO
          clear hO
          go_wp2
          go_meet
          case rel => exact ⟨4, sp, by rfl, ⟨by omega⟩, ⟨by have := HL.out; omega⟩, HI2, ⟨by have := HO3.out; simpa using this⟩⟩
        by_cases h110 : c = 110
        · subst h110
          have e1 : impl_parsed.n K 110 s p = (impl_nameAt.f K (s.extract p s.size)).bind fun n => some (if n = 0 then none else some n) := by unfold impl_parsed.n; simp
          rw [e1, Option.bind_assoc] at hO
          obtain ⟨n, hn, hO⟩ := Option.bind_eq_some_iff.mp hO
          rw [Option.bind_some] at hO
          have HN := Aside0.mk hn
          clear hn e1
          by_cases hn0 : n = 0
          · rw [if_pos hn0] at hO
            simp only [Option.some.injEq, Prod.mk.injEq] at hO
            obtain ⟨rfl, rfl⟩ := hO
            subst hn0
            go_wp2_with (first | (go_at_call 45; refine (impl_parsed.rest _ _ _ s p HI2.out.1 HI2.out.2.1 HQ.out).mono ?_; rintro e w1 ⟨rfl, rfl⟩) | (go_at_call 46; refine (impl_nameAt.calls K _ 0 _ HN.out).mono ?_; rintro e w2 ⟨rfl, m, rfl⟩))
            go_ret2
            exact ⟨_, rfl, Kd.R_nil _ _ _ _ _, (HI2.out.drewN m).2.2.2.2⟩
          · rw [if_neg hn0] at hO
            simp only at hO
            by_cases hnb : n < 0 ∨ 4611686018427387904 < n
            · rw [if_pos hnb] at hO
              cases hO
            · rw [if_neg hnb] at hO
              have hov : wrap64 ((p : Int) + n) = (p : Int) + n := by
                have := HQ.out
                have := HS.out
                unfold wrap64
                omega
              have hn1 : (n == 0) = false := beq_eq_false_iff_ne.mpr hn0
              have HNB : Aside0 (0 ≤ n ∧ n ≤ 4611686018427387904) := ⟨by omega⟩
              have HO3 := Aside0.mk hO
              clear hO hnb hn0
              go_wp2_with (first | (go_at_call 45; refine (impl_parsed.rest _ _ _ s p HI2.out.1 HI2.out.2.1 HQ.out).mono ?_; rintro e w1 ⟨rfl, rfl⟩) | (go_at_call 46; refine (impl_nameAt.calls K _ n _ HN.out).mono ?_; rintro e w2 ⟨rfl, m, rfl⟩; have hd0 := cell_of_one (HI2.out.drewN m).1; have hd1 := cell_of_one (HI2.out.drewN m).2.1) | ((with_reducible refine gate_builtin (b := .append) (xs := #[.tmp 49, .tmp 55]) rfl ?_); at_builtin; refine Kd.R_append k87 (w0 := w) w.heap.size rfl (.tmp 49) (.tmp 55) 80 87 (.agg #[(.int .i64 0), (.int .i64 0)]) 16 rfl Tryd.underlying80 (by kernel_rfl) rfl (by decide) (by omega) u8 sp (⟨(p : Int), (p : Int) + n⟩ : S87) [.int .i64 (p : Int), .int .i64 ((p : Int) + n)] (fun k => k ≠ w.heap.size ∧ k ≠ w.heap.size + 1 ∧ k ≠ w.heap.size + 1 + 1) (fun _ => False) rfl rfl ?aP (fun _ hk => hk.elim) ?aF ?aO ?aB ?aS ?aL ?_; (case aP => exact k87_mkM _ _ _ (⟨(p : Int), (p : Int) + n⟩ : S87)); (case aB => exact (HI2.out.drewN m).2.2.2.2); (case aF => exact (fun k hk => by have := lt_of_block (HI2.out.drewN m).2.2.1; omega)); (case aO => exact (HI2.out.drewN m).2.2.2.1); (case aS => exact (HI2.out.drewN m).2.2.2.2.size); (case aL => have := HL.out; have := HF.out; have := HP.out; omega); intro v1 w3 ho hb hg hat; have HI3 := Aside0.mk ((HI2.out.drewN m).spans ho hb hg); clear ho hb hg hat))
              go_meet
              case rel => exact ⟨n, sp ++ [⟨(p : Int), (p : Int) + n⟩], by rfl, HNB, ⟨by have := HL.out; simp; omega⟩, HI3, ⟨by have := HO3.out; simp only [if_true] at this; exact this⟩⟩
        by_cases h116 : c = 116
        · subst h116
          have e1 : impl_parsed.n K 116 s p = some (if s.size ≤ p then none else some (1 + bt s (p : Int))) := by unfold impl_parsed.n; simp
          rw [e1, Option.bind_some] at hO
          clear e1
          by_cases hsp : s.size ≤ p
          · rw [if_pos hsp] at hO
            simp only [Option.some.injEq, Prod.mk.injEq] at hO
            obtain ⟨rfl, rfl⟩ := hO
            have hd : decide ((s.size : Int) ≤ (p : Int)) = true := decide_eq_true (by omega)
            go_wp2
            go_ret2
            exact ⟨_, rfl, Kd.R_nil _ _ _ _ _, HI2.out.2.2.2.2⟩
          · rw [if_neg hsp] at hO
            have hbr := bt_range s (p : Int)
            have hd : decide ((s.size : Int) ≤ (p : Int)) = false := decide_eq_false (by omega)
            have q3 : ((p : Int) < (s.size : Int)) = True := eq_true (by omega)
            have q4 : (p < s.size) = True := eq_true (by omega)
            have hx4 : ∀ h : p < s.size, ((s[p]'h).toNat : Int) = bt s (p : Int) := fun h => bt_at s (p : Int) h
            have hov0 : wrap64 (bt s (p : Int)) = bt s (p : Int) := by unfold wrap64; omega
            have hov : wrap64 (1 + bt s (p : Int)) = 1 + bt s (p : Int) := by unfold wrap64; omega
            simp only at hO
            rw [if_neg (by omega)] at hO
            have HO3 := Aside0.mk hO
            have HBR := Aside0.mk hbr
            have hsp2 : ¬ ((s.size : Int) ≤ (p : Int)) := by omega
            clear hO hsp
            go_wp2
            go_meet
            case rel => exact ⟨1 + bt s (p : Int), sp, by rfl, ⟨by have := HBR.out; omega⟩, ⟨by have := HL.out; omega⟩, HI2, ⟨by have := HO3.out; rw [if_neg (show ¬ ((116 : Int) = 110) by decide)] at this; exact this⟩⟩
        by_cases h42 : c = 42
        · subst h42
          have e1 : impl_parsed.n K 42 s p = some (some ((s.size : Int) - p)) := by unfold impl_parsed.n; simp
          rw [e1, Option.bind_some] at hO
          simp only at hO
          have hsz : ((s.extract p s.size).size : Int) = (s.size : Int) - (p : Int) := by
            have := HQ.out
            rw [ByteArray.size_extract]
            omega
          rw [if_neg (by have := HQ.out; have := HS.out; omega)] at hO
          have HO3 := Aside0.mk hO
          clear hO e1
          go_wp2_with (first | (go_at_call 45; refine (impl_parsed.rest _ _ _ s p HI2.out.1 HI2.out.2.1 HQ.out).mono ?_; rintro e w1 ⟨rfl, rfl⟩))
          go_meet
          case rel => exact ⟨((s.size - p : Nat) : Int), sp, by rfl, ⟨by have := HQ.out; have := HS.out; omega⟩, ⟨by have := HL.out; omega⟩, HI2, ⟨by rw [show ((s.size - p : Nat) : Int) = (s.size : Int) - (p : Int) from by have := HQ.out; omega]; have := HO3.out; rw [if_neg (show ¬ ((42 : Int) = 110) by decide)] at this; exact this⟩⟩
        by_cases h109 : c = 109
        · subst h109
          have e1 : impl_parsed.n K 109 s p = (impl_MapTypes.f K (s.extract p s.size)).bind fun r => some (if r.2 = 0 then some ((s.size : Int) - p) else none) := by unfold impl_parsed.n; simp
          rw [e1, Option.bind_assoc] at hO
          obtain ⟨⟨ml, mc⟩, hm, hO⟩ := Option.bind_eq_some_iff.mp hO
          rw [Option.bind_some] at hO
          have HM := Aside0.mk hm
          clear hm e1
          by_cases hm0 : mc = 0
          · subst hm0
            rw [if_pos (by rfl)] at hO
            simp only at hO
            have hsz : ((s.extract p s.size).size : Int) = (s.size : Int) - (p : Int) := by
              have := HQ.out
              rw [ByteArray.size_extract]
              omega
            rw [if_neg (by have := HQ.out; have := HS.out; omega)] at hO
            have HO3 := Aside0.mk hO
            clear hO
            go_wp2_with (first | (go_at_call 45; refine (impl_parsed.rest _ _ _ s p HI2.out.1 HI2.out.2.1 HQ.out).mono ?_; rintro e w1 ⟨rfl, rfl⟩) | (go_at_call 45; refine (impl_parsed.rest _ _ _ s p HI3.out.1 HI3.out.2.1 HQ.out).mono ?_; rintro e w1 ⟨rfl, rfl⟩) | (go_at_call 47; refine (impl_MapTypes.calls K _ ml 0 _ HM.out).mono ?_; rintro e w2 ⟨vm, rfl, hR, hb⟩; have HI3 := Aside0.mk (HI2.out.below hb); clear hR hb))
            go_meet
            case rel => exact ⟨((s.size - p : Nat) : Int), sp, by rfl, ⟨by have := HQ.out; have := HS.out; omega⟩, ⟨by have := HL.out; omega⟩, HI3, ⟨by rw [show ((s.size - p : Nat) : Int) = (s.size : Int) - (p : Int) from by have := HQ.out; omega]; have := HO3.out; rw [if_neg (show ¬ ((109 : Int) = 110) by decide)] at this; exact this⟩⟩
          · rw [if_neg hm0] at hO
            simp only [Option.some.injEq, Prod.mk.injEq] at hO
            obtain ⟨rfl, rfl⟩ := hO
            have hmb : (mc != 0) = true := bne_iff_ne.mpr hm0
            clear hm0
            go_wp2_with (first | (go_at_call 45; refine (impl_parsed.rest _ _ _ s p HI2.out.1 HI2.out.2.1 HQ.out).mono ?_; rintro e w1 ⟨rfl, rfl⟩) | (go_at_call 47; refine (impl_MapTypes.calls K _ ml mc _ HM.out).mono ?_; rintro e w2 ⟨vm, rfl, hR, hb⟩; have HI3 := Aside0.mk (HI2.out.below hb); clear hR hb))
            go_ret2
            exact ⟨_, rfl, Kd.R_nil _ _ _ _ _, HI3.out.2.2.2.2⟩
        by_cases h84 : c = 84
        · subst h84
          have e1 : impl_parsed.n K 84 s p = some (if impl_parsed.tEnd s (s.size - p) p = p then none else some ((impl_parsed.tEnd s (s.size - p) p : Int) - p)) := by unfold impl_parsed.n; simp
          rw [e1, Option.bind_some] at hO
          clear e1
          have HO3 := Aside0.mk hO
          clear hO
          go_wp2
          go_loopg [16] (s.size - p) (fun kq v16 w' => ∃ k : Nat, v16 = .int .i64 (k : Int) ∧ Aside0 (impl_parsed.tEnd s kq k = impl_parsed.tEnd s (s.size - p) p) ∧ Aside0 (p ≤ k) ∧ Aside0 (k ≤ s.size + 256) ∧ Aside0 (s.size - k ≤ kq) ∧ Aside0 (PInv w form s w' (pos + 1) p u8 sp))
          case atStart => exact ⟨p, rfl, ⟨rfl⟩, ⟨Nat.le_refl _⟩, ⟨by have := HQ.out; omega⟩, ⟨Nat.le_refl _⟩, HI2⟩
          case round =>
            clear hb0 hb1
            obtain ⟨k, rfl, HT, HPK, HKS, HKQ, HI3⟩ := hrel
            have hb0 := cell_of_one HI3.out.1
            have hb1 := cell_of_one HI3.out.2.1
            by_cases hks : k < s.size
            · cases gk with
              | zero => exact absurd HKQ.out (by omega)
              | succ k1 =>
                have hbr := bt_range s (k : Int)
                have hd : decide ((k : Int) < (s.size : Int)) = true := decide_eq_true (by omega)
                have q3 : ((k : Int) < (s.size : Int)) = True := eq_true (by omega)
                have q4 : (k < s.size) = True := eq_true (by omega)
                have hx4 : ∀ h : k < s.size, ((s[k]'h).toNat : Int) = bt s (k : Int) := fun h => bt_at s (k : Int) h
                have hov0 : wrap64 (bt s (k : Int)) = bt s (k : Int) := by unfold wrap64; omega
                have hS := HS.out
                have hov : wrap64 ((k : Int) + (1 + bt s (k : Int))) = (k : Int) + (1 + bt s (k : Int)) := by unfold wrap64; omega
                have hov1 : wrap64 (1 + bt s (k : Int)) = 1 + bt s (k : Int) := by unfold wrap64; omega
                have HBR := Aside0.mk hbr
                have HT2 : Aside0 (impl_parsed.tEnd s k1 (k + 1 + (bt s (k : Int)).toNat) = impl_parsed.tEnd s (s.size - p) p) := ⟨by have := HT.out; rw [impl_parsed.tEnd, if_pos hks] at this; exact this⟩
                have HLT := Aside0.mk hks
                clear hks hS HT
                go_wp2
                go_roundg k1
                case measure => omega
                case rel =>
                  have := HBR.out
                  have := HLT.out
                  exact ⟨k + 1 + (bt s (k : Int)).toNat, by rw [show ((k + 1 + (bt s (k : Int)).toNat : Nat) : Int) = (k : Int) + (1 + bt s (k : Int)) from by omega, hov], HT2, ⟨by have := HPK.out; omega⟩, ⟨by omega⟩, ⟨by have := HKQ.out; omega⟩, HI3⟩
            · have hte : impl_parsed.tEnd s gk k = k := by
                cases gk with
                | zero => rfl
                | succ k1 => rw [impl_parsed.tEnd, if_neg hks]
              have hd : decide ((k : Int) < (s.size : Int)) = false := decide_eq_false (by omega)
              have hO := HO3.out
              rw [← HT.out, hte] at hO
              clear HO3
              by_cases hkp : k = p
              · subst hkp
                rw [if_pos rfl] at hO
                simp only [Option.some.injEq, Prod.mk.injEq] at hO
                obtain ⟨rfl, rfl⟩ := hO
                have hov : wrap64 ((k : Int) - (k : Int)) = 0 := by unfold wrap64; omega
                go_wp2
                go_ret2
                exact ⟨_, rfl, Kd.R_nil _ _ _ _ _, HI3.out.2.2.2.2⟩
              · have hpk := HPK.out
                have hkS := HKS.out
                have hS := HS.out
                rw [if_neg hkp] at hO
                simp only at hO
                rw [if_neg (by omega)] at hO
                have hov : wrap64 ((k : Int) - (p : Int)) = (k : Int) - (p : Int) := by unfold wrap64; omega
                have hne : ((k : Int) - (p : Int) == 0) = false := beq_eq_false_iff_ne.mpr (by omega)
                have HB3 : Aside0 (0 ≤ (k : Int) - (p : Int) ∧ (k : Int) - (p : Int) ≤ 4611686018427387904) := ⟨by omega⟩
                have HO4 := Aside0.mk hO
                have hks2 : ¬ ((k : Int) < (s.size : Int)) := by omega
                clear hO hkp hpk hkS hS hks
                go_wp2
                go_meet
                case rel => exact ⟨(k : Int) - p, sp, by rfl, HB3, ⟨by have := HL.out; omega⟩, HI3, ⟨by have := HO4.out; rw [if_neg (show ¬ ((84 : Int) = 110) by decide)] at this; exact this⟩⟩
        by_cases h99 : c = 99
        · subst h99
          have e1 : impl_parsed.n K 99 s p = some (if s.size ≤ p then none else if 1 + bt s (p : Int) < 2 then none else if 16 < 1 + bt s (p : Int) then none else if (s.size : Int) < (p : Int) + (1 + bt s (p : Int)) then none else if (bytesOf (s.extract (p + 1) (p + (1 + bt s (p : Int)).toNat))).all impl_parsed.alnum then some (1 + bt s (p : Int)) else none) := by unfold impl_parsed.n; simp
          rw [e1, Option.bind_some] at hO
          clear e1
          by_cases hsp : s.size ≤ p
          · rw [if_pos hsp] at hO
            simp only [Option.some.injEq, Prod.mk.injEq] at hO
            obtain ⟨rfl, rfl⟩ := hO
            have hd : decide ((s.size : Int) ≤ (p : Int)) = true := decide_eq_true (by omega)
            go_wp2
            go_ret2
            exact ⟨_, rfl, Kd.R_nil _ _ _ _ _, HI2.out.2.2.2.2⟩
          · rw [if_neg hsp] at hO
            have hbr := bt_range s (p : Int)
            have hsp2 : ¬ ((s.size : Int) ≤ (p : Int)) := by omega
            have q3 : ((p : Int) < (s.size : Int)) = True := eq_true (by omega)
            have q4 : (p < s.size) = True := eq_true (by omega)
            have hx4 : ∀ h : p < s.size, ((s[p]'h).toNat : Int) = bt s (p : Int) := fun h => bt_at s (p : Int) h
            generalize hbb : bt s (p : Int) = b at *
            have HBB := Aside0.mk hbb
            clear hbb
            have hov0 : wrap64 b = b := by unfold wrap64; omega
            have hov : wrap64 (1 + b) = 1 + b := by unfold wrap64; omega
            have hov2 : wrap64 ((p : Int) + (1 + b)) = (p : Int) + (1 + b) := by have := HQ.out; have := HS.out; unfold wrap64; omega
            have hov3 : wrap64 ((p : Int) + 1) = (p : Int) + 1 := by have := HQ.out; have := HS.out; unfold wrap64; omega
            by_cases hn2 : 1 + b < 2
            · rw [if_pos hn2] at hO
              simp only [Option.some.injEq, Prod.mk.injEq] at hO
              obtain ⟨rfl, rfl⟩ := hO
              clear hsp
              go_wp2
              go_ret2
              exact ⟨_, rfl, Kd.R_nil _ _ _ _ _, HI2.out.2.2.2.2⟩
            · rw [if_neg hn2] at hO
              by_cases hn16 : 16 < 1 + b
              · rw [if_pos hn16] at hO
                simp only [Option.some.injEq, Prod.mk.injEq] at hO
                obtain ⟨rfl, rfl⟩ := hO
                clear hsp
                go_wp2
                go_ret2
                exact ⟨_, rfl, Kd.R_nil _ _ _ _ _, HI2.out.2.2.2.2⟩
              · rw [if_neg hn16] at hO
                by_cases hlen : (s.size : Int) < (p : Int) + (1 + b)
                · rw [if_pos hlen] at hO
                  simp only [Option.some.injEq, Prod.mk.injEq] at hO
                  obtain ⟨rfl, rfl⟩ := hO
                  clear hsp
                  go_wp2
                  go_ret2
                  exact ⟨_, rfl, Kd.R_nil _ _ _ _ _, HI2.out.2.2.2.2⟩
                · rw [if_neg hlen] at hO
                  have HX := Aside0.mk hO
                  clear hO
                  have hcv := fun W x => Lib.run_convert_string_bytes (P := Tryd.prog) W 9 22 5 x Tryd.underlying9 Tryd.underlying22 Tryd.underlying5
                  have hsl1 : ((p : Int) + 1 ≤ (p : Int) + (1 + b)) = True := eq_true (by omega)
                  have hsl2 : ((p : Int) + (1 + b) ≤ (s.size : Int)) = True := eq_true (by omega)
                  have hsl3 : (0 ≤ (p : Int) + 1) = True := eq_true (by omega)
                  have hE : ((p : Int) + (1 + b)).toNat = p + (1 + b).toNat := by omega
                  have HIP := HI2.out.below (bytes_below (Below.refl W.heap.size W) (Nat.le_refl _) 5 (s.extract (p + 1) (p + (1 + b).toNat)))
                  have HRW := Go.Proofs.YtcamchdenjpmhaaDoorW.XConv.Row8.conv W 5 (s.extract (p + 1) (p + (1 + b).toNat))
                  have HXS : Aside0 ((s.extract (p + 1) (p + (1 + b).toNat)).size ≤ 16) := ⟨by rw [ByteArray.size_extract]; omega⟩
                  have HIP2 := Aside0.mk HIP
                  have HRW2 := Aside0.mk HRW
                  clear hsp HIP HRW
                  generalize hxx : s.extract (p + 1) (p + (1 + b).toNat) = x at *
                  go_wp2
                  clear hcv hsl1 hsl2 hsl3 hE hb0 hb1 hov0 hov hov2 hov3 hx4 hxx
                  go_loopg [94] x.size (fun kq v94 w' => ∃ j : Nat, v94 = .int .i64 (j : Int) ∧ Aside0 (kq + j = x.size) ∧ Aside0 (j ≤ x.size) ∧ Aside0 (((bytesOf x).take j).all impl_parsed.alnum = true) ∧ Aside0 (Go.Proofs.YtcamchdenjpmhaaDoorW.XConv.Row8 w' W.heap.size 5 (bytesOf x)) ∧ Aside0 (PInv w form s w' (pos + 1) p u8 sp))
                  case atStart => exact ⟨0, rfl, ⟨by omega⟩, ⟨by omega⟩, ⟨by simp⟩, HRW2, HIP2⟩
                  case round =>
                    clear HIP2 HRW2
                    obtain ⟨j, rfl, HKJ, HJX, HAL, HR, HI3⟩ := hrel
                    have hlb := bytesOf_length x
                    by_cases hjx : j < x.size
                    · cases gk with
                      | zero => exact absurd HKJ.out (by omega)
                      | succ k1 =>
                      have hcell := HR.out.cell j (by omega)
                      have hg : (bytesOf x).getD j 0 = bt x (j : Int) := by rw [← rd_bytesOf]; simp [rd]
                      rw [hg] at hcell
                      have hmem : bt x (j : Int) ∈ bytesOf x := by
                        rw [← hg, List.getD_eq_getElem?_getD, List.getElem?_eq_getElem (by omega)]
                        exact List.getElem_mem _
                      have HBAD : impl_parsed.alnum (bt x (j : Int)) = false → (bytesOf x).all impl_parsed.alnum = false := fun e => List.all_eq_false.2 ⟨_, hmem, by rw [e]; decide⟩
                      have HAL2 : impl_parsed.alnum (bt x (j : Int)) = true → ((bytesOf x).take (j + 1)).all impl_parsed.alnum = true := fun e => by
                        rw [List.take_succ_eq_append_getElem (by omega), List.all_append, HAL.out]
                        have : (bytesOf x)[j]'(by omega) = bt x (j : Int) := by rw [← hg, List.getD_eq_getElem?_getD, List.getElem?_eq_getElem (by omega)]; rfl
                        simp [this, e]
                      have hbr8 := bt_range x (j : Int)
                      have hd : decide ((j : Int) < (x.size : Int)) = true := decide_eq_true (by omega)
                      have hov : wrap64 ((j : Int) + 1) = (j : Int) + 1 := by have := HJX.out; have := HXS.out; unfold wrap64; omega
                      clear hg hmem hlb
                      generalize bt x (j : Int) = c8 at *
                      rcases (by omega : (c8 < 48) ∨ (48 ≤ c8 ∧ c8 ≤ 57) ∨ (57 < c8 ∧ c8 < 65) ∨ (65 ≤ c8 ∧ c8 ≤ 90) ∨ (90 < c8 ∧ c8 < 97) ∨ (97 ≤ c8 ∧ c8 ≤ 122) ∨ (122 < c8)) with hr | ⟨hr, hr2⟩ | ⟨hr, hr2⟩ | ⟨hr, hr2⟩ | ⟨hr, hr2⟩ | ⟨hr, hr2⟩ | hr
                      · have hbad := HBAD (by unfold impl_parsed.alnum; simp; omega)
                        have hO := HX.out
                        rw [hbad] at hO
                        simp only [Bool.false_eq_true, if_false, Option.some.injEq, Prod.mk.injEq] at hO
                        obtain ⟨rfl, rfl⟩ := hO
                        have t0 : (48 ≤ c8) = False := eq_false (by omega)
                        have t1 : (c8 ≤ 57) = True := eq_true (by omega)
                        have t2 : (97 ≤ c8) = False := eq_false (by omega)
                        have t3 : (c8 ≤ 122) = True := eq_true (by omega)
                        have t4 : (65 ≤ c8) = False := eq_false (by omega)
                        have t5 : (c8 ≤ 90) = True := eq_true (by omega)
                        have q3 : ((j : Int) < (x.size : Int)) = True := eq_true (by omega)
                        have q4 : (j < x.size) = True := eq_true (by omega)
                        have HJ1 := Aside0.mk hjx
                        clear hr hbr8 HBAD HAL2 hd hjx hbad
                        go_wp2
                        go_ret2
                        exact ⟨_, rfl, Kd.R_nil _ _ _ _ _, HI3.out.2.2.2.2⟩
                      · have hok := HAL2 (by unfold impl_parsed.alnum; simp; omega)
                        have HOK := Aside0.mk hok
                        have t0 : (48 ≤ c8) = True := eq_true (by omega)
                        have t1 : (c8 ≤ 57) = True := eq_true (by omega)
                        have t2 : (97 ≤ c8) = False := eq_false (by omega)
                        have t3 : (c8 ≤ 122) = True := eq_true (by omega)
                        have t4 : (65 ≤ c8) = False := eq_false (by omega)
                        have t5 : (c8 ≤ 90) = True := eq_true (by omega)
                        have q3 : ((j : Int) < (x.size : Int)) = True := eq_true (by omega)
                        have q4 : (j < x.size) = True := eq_true (by omega)
                        have HJ1 := Aside0.mk hjx
                        clear hr hr2 hbr8 HBAD HAL2 hd hjx hok
                        go_wp2
                        go_roundg k1
                        case measure => omega
                        case rel => exact ⟨j + 1, by go_num, ⟨by have := HKJ.out; omega⟩, ⟨by have := HJ1.out; omega⟩, HOK, HR, HI3⟩
                      · have hbad := HBAD (by unfold impl_parsed.alnum; simp; omega)
                        have hO := HX.out
                        rw [hbad] at hO
                        simp only [Bool.false_eq_true, if_false, Option.some.injEq, Prod.mk.injEq] at hO
                        obtain ⟨rfl, rfl⟩ := hO
                        have t0 : (48 ≤ c8) = True := eq_true (by omega)
                        have t1 : (c8 ≤ 57) = False := eq_false (by omega)
                        have t2 : (97 ≤ c8) = False := eq_false (by omega)
                        have t3 : (c8 ≤ 122) = True := eq_true (by omega)
                        have t4 : (65 ≤ c8) = False := eq_false (by omega)
                        have t5 : (c8 ≤ 90) = True := eq_true (by omega)
                        have q3 : ((j : Int) < (x.size : Int)) = True := eq_true (by omega)
                        have q4 : (j < x.size) = True := eq_true (by omega)
                        have HJ1 := Aside0.mk hjx
                        clear hr hr2 hbr8 HBAD HAL2 hd hjx hbad
                        go_wp2
                        go_ret2
                        exact ⟨_, rfl, Kd.R_nil _ _ _ _ _, HI3.out.2.2.2.2⟩
                      · have hok := HAL2 (by unfold impl_parsed.alnum; simp; omega)
                        have HOK := Aside0.mk hok
                        have t0 : (48 ≤ c8) = True := eq_true (by omega)
                        have t1 : (c8 ≤ 57) = False := eq_false (by omega)
                        have t2 : (97 ≤ c8) = False := eq_false (by omega)
                        have t3 : (c8 ≤ 122) = True := eq_true (by omega)
                        have t4 : (65 ≤ c8) = True := eq_true (by omega)
                        have t5 : (c8 ≤ 90) = True := eq_true (by omega)
                        have q3 : ((j : Int) < (x.size : Int)) = True := eq_true (by omega)
                        have q4 : (j < x.size) = True := eq_true (by omega)
                        have HJ1 := Aside0.mk hjx
                        clear hr hr2 hbr8 HBAD HAL2 hd hjx hok
                        go_wp2
                        go_roundg k1
                        case measure => omega
                        case rel => exact ⟨j + 1, by go_num, ⟨by have := HKJ.out; omega⟩, ⟨by have := HJ1.out; omega⟩, HOK, HR, HI3⟩
                      · have hbad := HBAD (by unfold impl_parsed.alnum; simp; omega)
                        have hO := HX.out
                        rw [hbad] at hO
                        simp only [Bool.false_eq_true, if_false, Option.some.injEq, Prod.mk.injEq] at hO
                        obtain ⟨rfl, rfl⟩ := hO
                        have t0 : (48 ≤ c8) = True := eq_true (by omega)
                        have t1 : (c8 ≤ 57) = False := eq_false (by omega)
                        have t2 : (97 ≤ c8) = False := eq_false (by omega)
                        have t3 : (c8 ≤ 122) = True := eq_true (by omega)
                        have t4 : (65 ≤ c8) = True := eq_true (by omega)
                        have t5 : (c8 ≤ 90) = False := eq_false (by omega)
                        have q3 : ((j : Int) < (x.size : Int)) = True := eq_true (by omega)
                        have q4 : (j < x.size) = True := eq_true (by omega)
                        have HJ1 := Aside0.mk hjx
                        clear hr hr2 hbr8 HBAD HAL2 hd hjx hbad
                        go_wp2
                        go_ret2
                        exact ⟨_, rfl, Kd.R_nil _ _ _ _ _, HI3.out.2.2.2.2⟩
                      · have hok := HAL2 (by unfold impl_parsed.alnum; simp; omega)
                        have HOK := Aside0.mk hok
                        have t0 : (48 ≤ c8) = True := eq_true (by omega)
                        have t1 : (c8 ≤ 57) = False := eq_false (by omega)
                        have t2 : (97 ≤ c8) = True := eq_true (by omega)
                        have t3 : (c8 ≤ 122) = True := eq_true (by omega)
                        have t4 : (65 ≤ c8) = True := eq_true (by omega)
                        have t5 : (c8 ≤ 90) = False := eq_false (by omega)
                        have q3 : ((j : Int) < (x.size : Int)) = True := eq_true (by omega)
                        have q4 : (j < x.size) = True := eq_true (by omega)
                        have HJ1 := Aside0.mk hjx
                        clear hr hr2 hbr8 HBAD HAL2 hd hjx hok
                        go_wp2
                        go_roundg k1
                        case measure => omega
                        case rel => exact ⟨j + 1, by go_num, ⟨by have := HKJ.out; omega⟩, ⟨by have := HJ1.out; omega⟩, HOK, HR, HI3⟩
                      · have hbad := HBAD (by unfold impl_parsed.alnum; simp; omega)
                        have hO := HX.out
                        rw [hbad] at hO
                        simp only [Bool.false_eq_true, if_false, Option.some.injEq, Prod.mk.injEq] at hO
                        obtain ⟨rfl, rfl⟩ := hO
                        have t0 : (48 ≤ c8) = True := eq_true (by omega)
                        have t1 : (c8 ≤ 57) = False := eq_false (by omega)
                        have t2 : (97 ≤ c8) = True := eq_true (by omega)
                        have t3 : (c8 ≤ 122) = False := eq_false (by omega)
                        have t4 : (65 ≤ c8) = True := eq_true (by omega)
                        have t5 : (c8 ≤ 90) = False := eq_false (by omega)
                        have q3 : ((j : Int) < (x.size : Int)) = True := eq_true (by omega)
                        have q4 : (j < x.size) = True := eq_true (by omega)
                        have HJ1 := Aside0.mk hjx
                        clear hr hbr8 HBAD HAL2 hd hjx hbad
                        go_wp2
                        go_ret2
                        exact ⟨_, rfl, Kd.R_nil _ _ _ _ _, HI3.out.2.2.2.2⟩
                    · obtain rfl : j = x.size := by have := HJX.out; omega
                      have hO := HX.out
                      have hal := HAL.out
                      rw [List.take_of_length_le (by omega)] at hal
                      rw [hal] at hO
                      simp only [if_true] at hO
                      rw [if_neg (by omega)] at hO
                      have HO3 := Aside0.mk hO
                      have HNB : Aside0 (0 ≤ 1 + b ∧ 1 + b ≤ 4611686018427387904) := ⟨by omega⟩
                      clear hO hal hlb hn2 hn16 hlen
                      go_wp2
                      go_meet
                      case rel => exact ⟨1 + b, sp, by rfl, HNB, ⟨by have := HL.out; omega⟩, HI3, ⟨by have := HO3.out; rw [if_neg (show ¬ ((99 : Int) = 110) by decide)] at this; exact this⟩⟩
        exfalso
        have e1 : impl_parsed.n K c s p = none := by unfold impl_parsed.n; simp [h49, h50, h52, h103, h113, h110, h116, h42, h109, h84, h99]
        rw [e1] at hO
        cases hO
      case rest =>
        obtain ⟨n, sp', rfl, HN, HL', HIc, HOc⟩ := hcut
        have hb0 := cell_of_one HIc.out.1
        have hb1 := cell_of_one HIc.out.2.1
        have hfr := free_of_one HIc.out.2.1
        have hov : wrap64 ((p : Int) + n) = (p : Int) + n := by
          have := HN.out
          have := HQ.out
          have := HS.out
          unfold wrap64
          omega
        have hO := HOc.out
        by_cases hbig : (s.size : Int) < (p : Int) + n
        · rw [if_pos hbig] at hO
          simp only [Option.some.injEq, Prod.mk.injEq] at hO
          obtain ⟨rfl, rfl⟩ := hO
          have hd : decide ((s.size : Int) < (p : Int) + n) = true := decide_eq_true hbig
          go_wp2
          go_ret2
          exact ⟨_, rfl, Kd.R_nil _ _ _ _ _, HIc.out.2.2.2.2⟩
        · rw [if_neg hbig] at hO
          have hd : decide ((s.size : Int) < (p : Int) + n) = false := decide_eq_false hbig
          have HO3 := Aside0.mk hO
          clear hO HOc
          go_wp2
          go_roundg (form.size - pos)
          case measure => have := HK.out; omega
          case rel =>
            have hpn : ((p + n.toNat : Nat) : Int) = (p : Int) + n := by have := HN.out; omega
            refine ⟨pos + 1, p + n.toNat, sp', ⟨by omega⟩, ⟨by omega⟩, HL', ⟨by omega⟩, ⟨?_⟩, HO3⟩
            have := HIc.out.put (p + n.toNat)
            rw [hpn] at this
            exact this
    · have hend := PInv.end_ (P := Tryd.prog) HI.out hpf
      obtain rfl : pos = form.size := by have := HP.out; omega
      have hO := HO.out
      rw [List.drop_of_length_le (by simp), impl_parsed.go] at hO
      simp only [Option.some.injEq, Prod.mk.injEq] at hO
      obtain ⟨rfl, rfl⟩ := hO
      clear HO
      go_wp2
      go_region
      go_wp2
      go_ret2
      have hI := HI.out.drew
      exact ⟨_, rfl, Kd.R_mono hI.2.2.2.1 (fun _ _ => trivial), hI.2.2.2.2⟩
set_option maxHeartbeats 8000000 in
set_option maxRecDepth 100000 in
theorem impl_parsed.none_ (rt : Int) (s : ByteArray) (hf : formOf rt = none) (hwf : (Lit.int .i64 rt).wf = true) (w : World) (hG : Glob w) :
    Calls Tryd.prog 41 #[.int .i64 rt, .string s] w fun e w' => e = .returned (.tuple #[.slice none 0 0, .bool true]) ∧ Below w.heap.size w w' := by
  have hG1 := hG.alloc (.cells #[.string s] 9)
  obtain ⟨bm, og, om, g1, g2, g3, g4⟩ := hG1
  have hc0 := g3 _ g1
  have hlk := g4 _ rt g2 hwf
  rw [hf] at hlk
  simp only [Option.getD_none, Option.isSome_none] at hlk
  clear g1 g2 g3 g4 hf hwf
  go_enter Tryd.func41, Tryd.ntmps41
  go_wp2
  go_ret2
  exact ⟨rfl, below_alloc (Below.refl _ _) _⟩
theorem formOf_small {t : Int} {form : ByteArray} (h : formOf t = some form) : (∀ c ∈ form.data.toList, c.toNat < 128) ∧ form.size ≤ 100 := by
  unfold formOf at h
  by_cases c1 : t = 1
  · rw [if_pos c1] at h
    obtain rfl := Option.some.inj h
    decide
  rw [if_neg c1] at h
  by_cases c2 : t = 2
  · rw [if_pos c2] at h
    obtain rfl := Option.some.inj h
    decide
  rw [if_neg c2] at h
  by_cases c5 : t = 5
  · rw [if_pos c5] at h
    obtain rfl := Option.some.inj h
    decide
  rw [if_neg c5] at h
  by_cases c6 : t = 6
  · rw [if_pos c6] at h
    obtain rfl := Option.some.inj h
    decide
  rw [if_neg c6] at h
  by_cases c12 : t = 12
  · rw [if_pos c12] at h
    obtain rfl := Option.some.inj h
    decide
  rw [if_neg c12] at h
  by_cases c13 : t = 13
  · rw [if_pos c13] at h
    obtain rfl := Option.some.inj h
    decide
  rw [if_neg c13] at h
  by_cases c15 : t = 15
  · rw [if_pos c15] at h
    obtain rfl := Option.some.inj h
    decide
  rw [if_neg c15] at h
  by_cases c16 : t = 16
  · rw [if_pos c16] at h
    obtain rfl := Option.some.inj h
    decide
  rw [if_neg c16] at h
  by_cases c28 : t = 28
  · rw [if_pos c28] at h
    obtain rfl := Option.some.inj h
    decide
  rw [if_neg c28] at h
  by_cases c33 : t = 33
  · rw [if_pos c33] at h
    obtain rfl := Option.some.inj h
    decide
  rw [if_neg c33] at h
  by_cases c35 : t = 35
  · rw [if_pos c35] at h
    obtain rfl := Option.some.inj h
    decide
  rw [if_neg c35] at h
  by_cases c39 : t = 39
  · rw [if_pos c39] at h
    obtain rfl := Option.some.inj h
    decide
  rw [if_neg c39] at h
  by_cases c47 : t = 47
  · rw [if_pos c47] at h
    obtain rfl := Option.some.inj h
    decide
  rw [if_neg c47] at h
  by_cases c257 : t = 257
  · rw [if_pos c257] at h
    obtain rfl := Option.some.inj h
    decide
  rw [if_neg c257] at h
  cases h
theorem impl_parsed.calls (k : Nat) (a0 : Int) (a1 : ByteArray) (r1 : List S87) (r2 : Bool) (w : World) (h : impl_parsed.f k a0 a1 = some (r1, r2)) (hG : Glob w) :
    Calls Tryd.prog 41 #[.int .i64 a0, .string a1] w fun e w' => ∃ v0_ : Value, e = .returned (.tuple #[v0_, .bool r2]) ∧ Kd.R k87 87 w' w.heap.size (fun _ => True) v0_ r1 ∧ Below w.heap.size w w' := by
  unfold impl_parsed.f at h
  split at h
  case isTrue => cases h
  case isFalse hs =>
  split at h
  case isFalse => cases h
  case isTrue hwf =>
  split at h
  case h_1 hf =>
    cases h
    refine (impl_parsed.none_ a0 a1 hf hwf w hG).mono ?_
    rintro e w' ⟨rfl, hb⟩
    exact ⟨_, rfl, Kd.R_nil _ _ _ _ _, hb⟩
  case h_2 form hf => exact impl_parsed.some_ k a0 a1 form hf hwf (formOf_small hf).1 (formOf_small hf).2 (by omega) r1 r2 w hG h
theorem impl_parsed.n_mono (K : Nat) (c : Int) (s : ByteArray) (p : Nat) : LeO (impl_parsed.n K c s p) (impl_parsed.n (K + 1) c s p) := by
  unfold impl_parsed.n
  repeat' first
      | (with_reducible exact impl_nameAt.mono _ _)
      | (with_reducible exact impl_MapTypes.mono _ _)
      | (with_reducible exact LeO.refl _)
      | (with_reducible refine LeO.ite ?_ ?_)
      | (with_reducible refine LeO.bind ?_ (fun _ => ?_))
theorem impl_parsed.go_mono (K : Nat) (s : ByteArray) : ∀ (l : List UInt8) (p : Nat) (sp : List S87), LeO (impl_parsed.go K s l p sp) (impl_parsed.go (K + 1) s l p sp) := by
  intro l
  induction l with
  | nil => intro p sp; exact LeO.refl _
  | cons c r ih =>
    intro p sp
    rw [impl_parsed.go, impl_parsed.go]
    refine LeO.bind (impl_parsed.n_mono _ _ _ _) (fun o => ?_)
    cases o with
    | none => exact LeO.refl _
    | some n =>
      refine LeO.ite (LeO.refl _) (LeO.ite (LeO.refl _) (ih _ _))
theorem impl_parsed.mono : ∀ a0 a1 k, LeO (impl_parsed.f k a0 a1) (impl_parsed.f (k + 1) a0 a1) := by
  intro a0 a1 k
  unfold impl_parsed.f
  refine LeO.ite (LeO.refl _) (LeO.ite ?_ (LeO.refl _))
  cases formOf a0 with
  | none => exact LeO.refl _
  | some form => exact impl_parsed.go_mono _ _ _ _ _

end Go.Proofs.YtcamchdenjpmhaaDoor.F
namespace Go.Proofs.YtcamchdenjpmhaaDoor.F
open Go Go.Shelf Go.RowKit Go.Proofs.YtcamchdenjpmhaaDoorW.PrintWords Go.Proofs.YtcamchdenjpmhaaDoorW.PrintLast Go.Proofs.YtcamchdenjpmhaaDoorW.PrintMore
attribute [local go_sem] max2_int min2_int max_two min_two max_three min_three max_four min_four   -- for this text's walks alone
set_option linter.unusedVariables false
set_option linter.unusedSimpArgs false

/-! ### impl_CheckData: function 33 -/
def impl_CheckData.j0 : Nat → Int → ByteArray → Bool → Option (Int)
  | 0, _, _, _ => none
  | k + 1, x0, x1, x12 => if x12 = true then (some 6) else (if (x1.size : Int) > 65535 then (some 7) else ((impl_parsed.f k x0 x1).bind fun bt101 => (if bt101.2 = true then (some 0) else (some 7))))
def impl_CheckData.f (k : Nat) (a0 : Int) (a1 : ByteArray) : Option (Int) := if a0 < 0 then (impl_CheckData.j0 k a0 a1 true) else (impl_CheckData.j0 k a0 a1 (decide (a0 > 65535)))
theorem impl_CheckData.mono_l : ∀ k, (∀ y0 y1 y2, LeO (impl_CheckData.j0 k y0 y1 y2) (impl_CheckData.j0 (k + 1) y0 y1 y2))
  | 0 => fun _ _ _ r h => by simp [impl_CheckData.j0] at h
  | k + 1 => by
    have ih0 := impl_CheckData.mono_l k
    · intro y0 y1 y2
      unfold impl_CheckData.j0
      repeat' first
      | (with_reducible exact ih0 _ _ _)
      | (with_reducible exact impl_parsed.mono _ _ _)
      | (with_reducible exact LeO.refl _)
      | (with_reducible exact LeO.none _)
      | (with_reducible refine LeO.ite ?_ ?_)
      | (with_reducible refine LeO.bind ?_ (fun _ => ?_))
      | exact ih0 _ _ _
      | exact impl_parsed.mono _ _ _
      | exact LeO.none _
      | refine LeO.ite ?_ ?_
      | refine LeO.bind ?_ (fun _ => ?_)
theorem impl_CheckData.mono : ∀ a0 a1 k, LeO (impl_CheckData.f k a0 a1) (impl_CheckData.f (k + 1) a0 a1) := by
  intro a0 a1 k
  have ih0 := impl_CheckData.mono_l k
  unfold impl_CheckData.f
  repeat' first
      | (with_reducible exact ih0 _ _ _)
      | (with_reducible exact impl_parsed.mono _ _ _)
      | (with_reducible exact LeO.refl _)
      | (with_reducible exact LeO.none _)
      | (with_reducible refine LeO.ite ?_ ?_)
      | (with_reducible refine LeO.bind ?_ (fun _ => ?_))
      | exact ih0 _ _ _
      | exact impl_parsed.mono _ _ _
      | exact LeO.none _
      | refine LeO.ite ?_ ?_
      | refine LeO.bind ?_ (fun _ => ?_)
set_option maxHeartbeats 8000000 in
set_option maxRecDepth 100000 in
theorem impl_CheckData.calls (k : Nat) (a0 : Int) (a1 : ByteArray) (r : Int) (w : World) (h : impl_CheckData.f k a0 a1 = some r) (hG : Glob w) :
    Calls Tryd.prog 33 #[.int .i64 a0, .string a1] w fun e w' => e = .returned (.int .i64 r) ∧ Below w.heap.size w w' := by
  have HG := Aside0.mk hG
  clear hG
  have HB := Aside0.mk (Below.refl w.heap.size w)
  have H : (if a0 < 0 then (impl_CheckData.j0 k a0 a1 true) else (impl_CheckData.j0 k a0 a1 (decide (a0 > 65535)))) = some r := h
  clear h
  have HC3 := Aside0.mk H
  clear H
  go_enter Tryd.func33, Tryd.ntmps33
  go_upto_region 1 with (fail)
  go_cut [12] (fun v12 wc => ∃ (kq : Nat) (x12_2 : Bool), v12 = .bool x12_2 ∧ Aside0 (impl_CheckData.j0 kq a0 a1 x12_2 = some r) ∧ Aside0 (kq ≤ k) ∧ Aside0 (Below w.heap.size w wc))
  case first =>
    have H := HC3.out
    clear HC3
    by_cases c4 : a0 < 0
    · rw [if_pos c4] at H
      have c4b0 : decide (a0 < 0) = true := decide_eq_true c4
      clear c4
      (first | rw [c4b0] | (simp only [i64_w, i32_w]; rw [c4b0]) | skip)
      have H' := Aside0.mk H
      clear H
      go_wp2
      go_meet
      case rel => exact ⟨_, (true), (by first | rfl | (simp; done) | (simp [*]; done)), H', ⟨by first | omega | exact Nat.le_refl _⟩, ⟨by repeat (first | (with_reducible first | exact HB.out | apply below_alloc | apply pw_below_drewN | apply below_drew1) | exact HB.out)⟩⟩
    · rw [if_neg c4] at H
      have c4b0 : decide (a0 < 0) = false := decide_eq_false c4
      clear c4
      (first | rw [c4b0] | (simp only [i64_w, i32_w]; rw [c4b0]) | skip)
      have H' := Aside0.mk H
      clear H
      go_wp2
      go_meet
      case rel => exact ⟨_, (decide (a0 > 65535)), (by first | rfl | (simp; done) | (simp [*]; done)), H', ⟨by first | omega | exact Nat.le_refl _⟩, ⟨by repeat (first | (with_reducible first | exact HB.out | apply below_alloc | apply pw_below_drewN | apply below_drew1) | exact HB.out)⟩⟩
  case rest =>
    clear HC3
    try clear p2
    try clear c3
    try clear c4
    try clear c4b0
    obtain ⟨kq, x12_2, rfl, HA, HJ2, HB⟩ := hcut
    cases kq with
    | zero => exact absurd HA.out (by simp [impl_CheckData.j0])
    | succ kj2 =>
      have H := HA.out
      clear HA
      simp only [impl_CheckData.j0] at H
      by_cases c5 : x12_2 = true
      · subst c5
        have H1 : (some 6) = some r := by rw [if_pos rfl] at H; exact H
        clear H
        have H := H1
        clear H1
        obtain rfl := Option.some.inj H
        go_wp2
        go_ret
        exact ⟨by first | rfl | (simp [errW_none, errW_some] <;> rfl) | (simp [*, errW_none, errW_some] <;> rfl), by repeat (first | (with_reducible first | exact HB.out | apply below_alloc | apply pw_below_drewN | apply below_drew1) | exact HB.out)⟩
      · replace c5 := Bool.eq_false_iff.mpr c5
        subst c5
        have H1 : (if (a1.size : Int) > 65535 then (some 7) else ((impl_parsed.f kj2 a0 a1).bind fun bt101 => (if bt101.2 = true then (some 0) else (some 7)))) = some r := by rw [if_neg (show ¬ (false = true) by decide)] at H; exact H
        clear H
        have H := H1
        clear H1
        by_cases c6 : (a1.size : Int) > 65535
        · rw [if_pos c6] at H
          have c6b0 : decide (65535 < (a1.size : Int)) = true := decide_eq_true c6
          have c6b1 : decide (65535 < a1.size) = true := decide_eq_true (by omega)
          clear c6
          obtain rfl := Option.some.inj H
          go_wp2
          go_ret
          exact ⟨by first | rfl | (simp [errW_none, errW_some] <;> rfl) | (simp [*, errW_none, errW_some] <;> rfl), by repeat (first | (with_reducible first | exact HB.out | apply below_alloc | apply pw_below_drewN | apply below_drew1) | exact HB.out)⟩
        · rw [if_neg c6] at H
          have c6b0 : decide (65535 < (a1.size : Int)) = false := decide_eq_false c6
          have c6b1 : decide (65535 < a1.size) = false := decide_eq_false (by omega)
          clear c6
          replace H := Option.bind_eq_some_iff.mp H
          obtain ⟨⟨t101, t102⟩, A70, H⟩ := H
          replace H : (if t102 = true then (some 0) else (some 7)) = some r := H
          have A7 := Aside0.mk A70
          clear A70
          by_cases c8 : t102 = true
          · subst c8
            have H1 : (some 0) = some r := by rw [if_pos rfl] at H; exact H
            clear H
            have H := H1
            clear H1
            obtain rfl := Option.some.inj H
            go_wp2_with (first | ((with_reducible refine gate_callee (f := 41) rfl ?_); refine goesL_ (some 19) rfl rfl Tryd.func41 (by kernel_rfl) rfl #[.int .i64 a0, .string a1] rfl (by (try simp only [List.map_toArray, List.map_cons, List.map_nil]); first | done | rfl | (simp only [List.length_drop, List.length_take]; rfl)) ?_; (with_reducible refine (impl_parsed.calls kj2 a0 a1 t101 true _ A7.out (HG.out.below (by repeat (first | (with_reducible first | exact HB.out | apply below_alloc | apply pw_below_drewN | apply below_drew1) | exact HB.out)))).mono ?_); rintro e w9 ⟨v103, rfl, ho0, hb⟩; refine ⟨_, rfl, ?_⟩; have n0_ := Aside0.mk (Kd.R_lower ho0 (below_size (by repeat (first | (with_reducible first | exact HB.out | apply below_alloc | apply pw_below_drewN | apply below_drew1) | exact HB.out)))); have n1_ := Aside0.mk (below_step (by repeat (first | (with_reducible first | exact HB.out | apply below_alloc | apply pw_below_drewN | apply below_drew1) | exact HB.out)) hb); clear HB; have HO104 := n0_; have HB := n1_; clear n0_ n1_; (try clear hb); (try clear hb2); (try clear hk); (try clear hi); (try clear ho0)))
            go_ret
            exact ⟨by first | rfl | (simp [errW_none, errW_some] <;> rfl) | (simp [*, errW_none, errW_some] <;> rfl), by repeat (first | (with_reducible first | exact HB.out | apply below_alloc | apply pw_below_drewN | apply below_drew1) | exact HB.out)⟩
          · replace c8 := Bool.eq_false_iff.mpr c8
            subst c8
            have H1 : (some 7) = some r := by rw [if_neg (show ¬ (false = true) by decide)] at H; exact H
            clear H
            have H := H1
            clear H1
            obtain rfl := Option.some.inj H
            go_wp2_with (first | ((with_reducible refine gate_callee (f := 41) rfl ?_); refine goesL_ (some 19) rfl rfl Tryd.func41 (by kernel_rfl) rfl #[.int .i64 a0, .string a1] rfl (by (try simp only [List.map_toArray, List.map_cons, List.map_nil]); first | done | rfl | (simp only [List.length_drop, List.length_take]; rfl)) ?_; (with_reducible refine (impl_parsed.calls kj2 a0 a1 t101 false _ A7.out (HG.out.below (by repeat (first | (with_reducible first | exact HB.out | apply below_alloc | apply pw_below_drewN | apply below_drew1) | exact HB.out)))).mono ?_); rintro e w10 ⟨v103, rfl, ho0, hb⟩; refine ⟨_, rfl, ?_⟩; have n0_ := Aside0.mk (Kd.R_lower ho0 (below_size (by repeat (first | (with_reducible first | exact HB.out | apply below_alloc | apply pw_below_drewN | apply below_drew1) | exact HB.out)))); have n1_ := Aside0.mk (below_step (by repeat (first | (with_reducible first | exact HB.out | apply below_alloc | apply pw_below_drewN | apply below_drew1) | exact HB.out)) hb); clear HB; have HO104 := n0_; have HB := n1_; clear n0_ n1_; (try clear hb); (try clear hb2); (try clear hk); (try clear hi); (try clear ho0)))
            go_ret
            exact ⟨by first | rfl | (simp [errW_none, errW_some] <;> rfl) | (simp [*, errW_none, errW_some] <;> rfl), by repeat (first | (with_reducible first | exact HB.out | apply below_alloc | apply pw_below_drewN | apply below_drew1) | exact HB.out)⟩

end Go.Proofs.YtcamchdenjpmhaaDoor.F
namespace Go.Proofs.YtcamchdenjpmhaaDoor.F
open Go Go.Shelf Go.RowKit Go.Proofs.YtcamchdenjpmhaaDoorW.PrintWords Go.Proofs.YtcamchdenjpmhaaDoorW.PrintLast Go.Proofs.YtcamchdenjpmhaaDoorW.PrintMore
attribute [local go_sem] max2_int min2_int max_two min_two max_three min_three max_four min_four   -- for this text's walks alone
set_option linter.unusedVariables false
set_option linter.unusedSimpArgs false

/-! ### impl_decoder_record: function 17 -/
def recLoop (k : Nat) (l0 : List Int) (fin : Int) : Nat → ByteArray → Int → Int → Option (Bool × ByteArray × Int × Int)
  | 0, d, p, c => some (true, d, p, c)
  | n + 1, d, p, c => (impl_decoder_name.f k l0 p c).bind fun t => if d.size + t.1.size ≤ 1000000 then (if t.2.2 = 0 then (if t.2.1 > fin then some (false, ⟨#[]⟩, t.2.1, 7) else recLoop k l0 fin n (d ++ t.1) t.2.1 t.2.2) else some (false, ⟨#[]⟩, t.2.1, t.2.2)) else none
abbrev RecR := ByteArray × Int × Int × Int × ByteArray × Int × Int
def recZ (p c : Int) : RecR := (⟨#[]⟩, 0, 0, 0, ⟨#[]⟩, p, c)
def recEnd (k : Nat) (o : ByteArray) (ty cl ttl : Int) (d : ByteArray) (p c : Int) : Option RecR :=
  (impl_CheckData.f k ty d).bind fun x => if x = 0 then some (o, ty, cl, ttl, d, p, c) else some (recZ p 7)
def recData (k : Nat) (l0 : List Int) (o : ByteArray) (ty cl ttl n p : Int) : Option RecR :=
  (impl_hasPointers.f ty).bind fun hp => if hp = true then
    (if (if ty = 15 then 2 else 0) > n then some (recZ p 7) else
      (impl_decoder_take.f l0 p 0 (if ty = 15 then 2 else 0)).bind fun t => (recLoop k l0 (p + n) (if ty = 6 then 2 else 1) t.1 t.2.1 t.2.2).bind fun u => if u.1 = true then
        (impl_decoder_take.f l0 u.2.2.1 u.2.2.2 (p + n - u.2.2.1)).bind fun x => if u.2.1.size + x.1.size ≤ 1000000 then recEnd k o ty cl ttl (u.2.1 ++ x.1) x.2.1 x.2.2 else none
      else some (recZ u.2.2.1 u.2.2.2))
  else (impl_decoder_take.f l0 p 0 n).bind fun t => recEnd k o ty cl ttl t.1 t.2.1 t.2.2
def impl_decoder_record.f (k : Nat) (l0 : List Int) (p code : Int) : Option RecR :=
  (impl_decoder_name.f k l0 p code).bind fun t1 =>
  (impl_decoder_take.f l0 t1.2.1 t1.2.2 2).bind fun t2 => (impl_u16.f t2.1).bind fun ty =>
  (impl_decoder_take.f l0 t2.2.1 t2.2.2 2).bind fun t3 => (impl_u16.f t3.1).bind fun cl =>
  (impl_decoder_take.f l0 t3.2.1 t3.2.2 4).bind fun t4 => (impl_u32.f t4.1).bind fun ttl =>
  (impl_decoder_take.f l0 t4.2.1 t4.2.2 2).bind fun t5 => (impl_u16.f t5.1).bind fun n =>
  if 0 ≤ t5.2.1 ∧ t5.2.1 ≤ 1000000 ∧ 0 ≤ n ∧ n ≤ 1000000 then
  if t5.2.2 = 0 then (if t5.2.1 + n > (l0.length : Int) then some (recZ t5.2.1 8) else if n = 0 then some (t1.1, ty, cl, ttl, ⟨#[]⟩, t5.2.1, 0) else recData k l0 t1.1 ty cl ttl n t5.2.1)
  else some (recZ t5.2.1 t5.2.2) else none
theorem take_guard {l0 : List Int} {p code n : Int} {r : ByteArray × Int × Int} (h : impl_decoder_take.f l0 p code n = some r) : 0 ≤ n ∧ n ≤ 1000000 ∧ 0 ≤ p ∧ p ≤ 1000000 := by
  unfold impl_decoder_take.f at h
  split at h
  case isTrue h1 => exact h1
  case isFalse => cases h
set_option maxHeartbeats 16000000 in
set_option maxRecDepth 100000 in
theorem impl_decoder_record.calls (k : Nat) (v : World) (a : Nat) (A0 : Option Addr) (c0 : Nat) (l0 : List Int) (p code : Int) (r1 : ByteArray) (r2 r3 r4 : Int) (r5 : ByteArray) (r6 r7 : Int) (w : World) (hr0 : Kd.C (Kd.int .u8) v A0 l0.length l0) (hc0 : l0.length ≤ c0) (hB : Below v.heap.size v w) (ha : v.heap.size ≤ a)
    (hD : w.heap[a]? = some (.cells #[.slice A0 l0.length c0, .int .i64 p, .int .i64 code] 44 (0, 0))) (h : impl_decoder_record.f k l0 p code = some (r1, r2, r3, r4, r5, r6, r7)) (hG : Glob v) :
    Calls Tryd.prog 17 #[.pointer (some ⟨a, 0, none⟩)] w fun e w' => e = .returned (.agg #[.string r1, .int .i64 r2, .int .i64 r3, .int .i64 r4, .string r5]) ∧ w'.heap[a]? = some (.cells #[.slice A0 l0.length c0, .int .i64 r6, .int .i64 r7] 44 (0, 0)) ∧ Below v.heap.size v w' ∧ w.grownBy w' (some a) := by
  have HR := Aside0.mk hr0
  have HG := Aside0.mk hG
  have hal := lt_of_block hD
  have HD := Aside0.mk hD
  have HB := Aside0.mk hB
  clear hr0 hG hD hB
  unfold impl_decoder_record.f at h
  replace h := Option.bind_eq_some_iff.mp h
  obtain ⟨⟨o, p1, c1⟩, A1, h⟩ := h
  replace h := Option.bind_eq_some_iff.mp h
  obtain ⟨⟨s2, p2, c2⟩, A2, h⟩ := h
  replace h := Option.bind_eq_some_iff.mp h
  obtain ⟨ty, A3, h⟩ := h
  replace h := Option.bind_eq_some_iff.mp h
  obtain ⟨⟨s3, p3, c3⟩, A4, h⟩ := h
  replace h := Option.bind_eq_some_iff.mp h
  obtain ⟨cl, A5, h⟩ := h
  replace h := Option.bind_eq_some_iff.mp h
  obtain ⟨⟨s4, p4, c4⟩, A6, h⟩ := h
  replace h := Option.bind_eq_some_iff.mp h
  obtain ⟨ttl, A7, h⟩ := h
  replace h := Option.bind_eq_some_iff.mp h
  obtain ⟨⟨s5, p5, c5⟩, A8, h⟩ := h
  replace h := Option.bind_eq_some_iff.mp h
  obtain ⟨n, A9, h⟩ := h
  have H1 := Aside0.mk A1
  have H2 := Aside0.mk A2
  have H3 := Aside0.mk A3
  have H4 := Aside0.mk A4
  have H5 := Aside0.mk A5
  have H6 := Aside0.mk A6
  have H7 := Aside0.mk A7
  have H8 := Aside0.mk A8
  have H9 := Aside0.mk A9
  have H := Aside0.mk h
  clear A1 A2 A3 A4 A5 A6 A7 A8 A9 h
  simp only at H2 H4 H6 H8
  go_enter Tryd.func17, Tryd.ntmps17
  go_wp2_with fail
  refine (impl_decoder_name.calls k v a A0 c0 l0 p code _ _ _ _ HR.out hc0 (HB.out.alloc HB.out.size _) ha (blk_alloc HD.out _) H1.out).mono ?_
  rintro e w1 ⟨rfl, hd, hb, hg⟩
  have I0 := Aside0.mk (show RecI v w (w1.alloc (.cells #[.string o, .int .i64 0, .int .i64 0, .int .i64 0, .string ⟨#[]⟩] 53)) a w.heap.size w1.heap.size _ _ from
    ⟨blk_alloc hd _, blk_alloc (blk_grown (blk_new w _) hg (fun e => by injection e with e; omega)) _, blk_new _ _, hb.alloc hb.size _, (World.grownBy_alloc w _ _).trans (hg.trans (World.grownBy_alloc w1 _ _)), ha, hal, (by have := hg.size; simp at this; omega), Nat.le_refl _, HB.out.size⟩)
  clear hd hb hg
  go_wp2_with fail
  generalize w1.alloc (.cells #[.string o, .int .i64 0, .int .i64 0, .int .i64 0, .string ⟨#[]⟩] 53) = W1 at *
  generalize w1.heap.size = b3 at *
  generalize hb2_ : w.heap.size = b2 at *
  refine (impl_decoder_take.calls v a A0 c0 l0 p1 c1 2 _ _ _ _ HR.out hc0 I0.out.bel I0.out.ha I0.out.dec H2.out).mono ?_
  rintro e w2 ⟨rfl, hd, hb, hg⟩
  have I1 := Aside0.mk (I0.out.step hd hb hg)
  clear hd hb hg I0
  go_wp2_with fail
  refine (impl_u16.calls _ _ _ H3.out).mono ?_
  rintro e w3 ⟨rfl, hdr⟩
  have I2 := Aside0.mk (I1.out.below hdr.below)
  clear hdr I1
  have kc := (blk_cell I2.out.box3 1).trans rfl
  have kf := blk_frozen I2.out.box3 1
  have I2p := Aside0.mk (I2.out.put3 1 (.int .i64 ty) rfl)
  clear I2
  go_wp2_with fail
  clear kc kf
  generalize w3.setCell ⟨b3, 1, none⟩ (.int .i64 ty) = w3p at *
  refine (impl_decoder_take.calls v a A0 c0 l0 p2 c2 2 _ _ _ _ HR.out hc0 I2p.out.bel I2p.out.ha I2p.out.dec H4.out).mono ?_
  rintro e w4 ⟨rfl, hd, hb, hg⟩
  have I3 := Aside0.mk (I2p.out.step hd hb hg)
  clear hd hb hg I2p
  go_wp2_with fail
  refine (impl_u16.calls _ _ _ H5.out).mono ?_
  rintro e w5 ⟨rfl, hdr⟩
  have I4 := Aside0.mk (I3.out.below hdr.below)
  clear hdr I3
  have kc := (blk_cell I4.out.box3 2).trans rfl
  have kf := blk_frozen I4.out.box3 2
  have I4p := Aside0.mk (I4.out.put3 2 (.int .i64 cl) rfl)
  clear I4
  go_wp2_with fail
  clear kc kf
  generalize w5.setCell ⟨b3, 2, none⟩ (.int .i64 cl) = w5p at *
  refine (impl_decoder_take.calls v a A0 c0 l0 p3 c3 4 _ _ _ _ HR.out hc0 I4p.out.bel I4p.out.ha I4p.out.dec H6.out).mono ?_
  rintro e w6 ⟨rfl, hd, hb, hg⟩
  have I5 := Aside0.mk (I4p.out.step hd hb hg)
  clear hd hb hg I4p
  go_wp2_with fail
  refine (impl_u32.calls _ _ _ H7.out).mono ?_
  rintro e w7 ⟨rfl, hdr⟩
  have I6 := Aside0.mk (I5.out.below hdr)
  clear hdr I5
  have kc := (blk_cell I6.out.box3 3).trans rfl
  have kf := blk_frozen I6.out.box3 3
  have I6p := Aside0.mk (I6.out.put3 3 (.int .i64 ttl) rfl)
  clear I6
  go_wp2_with fail
  clear kc kf
  generalize w7.setCell ⟨b3, 3, none⟩ (.int .i64 ttl) = w7p at *
  refine (impl_decoder_take.calls v a A0 c0 l0 p4 c4 2 _ _ _ _ HR.out hc0 I6p.out.bel I6p.out.ha I6p.out.dec H8.out).mono ?_
  rintro e w8 ⟨rfl, hd, hb, hg⟩
  have I7 := Aside0.mk (I6p.out.step hd hb hg)
  clear hd hb hg I6p
  go_wp2_with fail
  refine (impl_u16.calls _ _ _ H9.out).mono ?_
  rintro e w9 ⟨rfl, hdr⟩
  have I8 := Aside0.mk (I7.out.below hdr.below)
  clear hdr I7
  replace h : (if 0 ≤ p5 ∧ p5 ≤ 1000000 ∧ 0 ≤ n ∧ n ≤ 1000000 then (if c5 = 0 then (if p5 + n > (l0.length : Int) then some (recZ p5 8) else if n = 0 then some (o, ty, cl, ttl, ⟨#[]⟩, p5, 0) else recData k l0 o ty cl ttl n p5) else some (recZ p5 c5)) else none) = some (r1, r2, r3, r4, r5, r6, r7) := H.out
  clear H H1 H2 H3 H4 H5 H6 H7 H8 H9
  split at h
  case isFalse => cases h
  case isTrue hn =>
  obtain ⟨hp0, hp1, hn0, hn1⟩ := hn
  by_cases hc : c5 = 0
  case neg =>
    rw [if_neg hc] at h
    simp only [recZ, Option.some.injEq, Prod.mk.injEq] at h
    obtain ⟨rfl, rfl, rfl, rfl, rfl, rfl, rfl⟩ := h
    have q5 : (c5 != 0) = true := bne_iff_ne.mpr hc
    clear hc
    have kd0 := (blk_cell I8.out.dec 0).trans rfl
    have kd1 := (blk_cell I8.out.dec 1).trans rfl
    have kd2 := (blk_cell I8.out.dec 2).trans rfl
    have kf2 := blk_frozen I8.out.dec 2
    go_wp2_with (first | ((with_reducible refine gate_store (t := 53) (p := 2) rfl ?_); refine wpList_store_row rfl 53 (.tmp 2) _ rfl b2 #[.string ⟨#[]⟩, .int .i64 0, .int .i64 0, .int .i64 0, .string ⟨#[]⟩] rfl rfl _ _ I8.out.box2 ?hi ?ho ?h1 ?_; (case hi => kernel_rfl); (case ho => rfl); (case h1 => kernel_rfl)))
    obtain ⟨z1, z2, z3, z4⟩ := I8.out.ret (S := #[.string ⟨#[]⟩, .int .i64 0, .int .i64 0, .int .i64 0, .string ⟨#[]⟩]) rfl
    exact bodyPost_ret (results_cell_row rfl _ _ b2 53 #[.string ⟨#[]⟩, .int .i64 0, .int .i64 0, .int .i64 0, .string ⟨#[]⟩] (0, 0) _ rfl z1 Tryd.underlying53 rfl (by kernel_rfl)) rfl ⟨rfl, z2, z3, z4⟩
  case pos =>
  rw [if_pos hc] at h
  subst hc
  by_cases hl : p5 + n > (l0.length : Int)
  · rw [if_pos hl] at h
    simp only [recZ, Option.some.injEq, Prod.mk.injEq] at h
    obtain ⟨rfl, rfl, rfl, rfl, rfl, rfl, rfl⟩ := h
    have ql : decide ((l0.length : Int) < p5 + n) = true := decide_eq_true hl
    have kd0 := (blk_cell I8.out.dec 0).trans rfl
    have kd1 := (blk_cell I8.out.dec 1).trans rfl
    have kd2 := (blk_cell I8.out.dec 2).trans rfl
    have kf2 := blk_frozen I8.out.dec 2
    have IY := Aside0.mk (I8.out.putd 2 (.int .i64 8) rfl)
    go_wp2_with (first | ((with_reducible refine gate_store (t := 53) (p := 2) rfl ?_); refine wpList_store_row rfl 53 (.tmp 2) _ rfl b2 #[.string ⟨#[]⟩, .int .i64 0, .int .i64 0, .int .i64 0, .string ⟨#[]⟩] rfl rfl _ _ IY.out.box2 ?hi ?ho ?h1 ?_; (case hi => kernel_rfl); (case ho => rfl); (case h1 => kernel_rfl)))
    obtain ⟨z1, z2, z3, z4⟩ := IY.out.ret (S := #[.string ⟨#[]⟩, .int .i64 0, .int .i64 0, .int .i64 0, .string ⟨#[]⟩]) rfl
    exact bodyPost_ret (results_cell_row rfl _ _ b2 53 #[.string ⟨#[]⟩, .int .i64 0, .int .i64 0, .int .i64 0, .string ⟨#[]⟩] (0, 0) _ rfl z1 Tryd.underlying53 rfl (by kernel_rfl)) rfl ⟨rfl, z2, z3, z4⟩
  · rw [if_neg hl] at h
    have ql : decide ((l0.length : Int) < p5 + n) = false := decide_eq_false hl
    by_cases hn2 : n = 0
    · rw [if_pos hn2] at h
      subst hn2
      simp only [Option.some.injEq, Prod.mk.injEq] at h
      obtain ⟨rfl, rfl, rfl, rfl, rfl, rfl, rfl⟩ := h
      have kd0 := (blk_cell I8.out.dec 0).trans rfl
      have kd1 := (blk_cell I8.out.dec 1).trans rfl
      have kd2 := (blk_cell I8.out.dec 2).trans rfl
      have kf2 := blk_frozen I8.out.dec 2
      go_wp2_with (first | ((with_reducible refine gate_ (.load 53 (.tmp 3)) rfl ?_); refine wpList_load_row rfl 53 (.tmp 3) rfl b3 rfl 53 _ _ _ I8.out.box3 Tryd.underlying53 rfl ?hi ?_; (case hi => kernel_rfl)) | ((with_reducible refine gate_store (t := 53) (p := 2) rfl ?_); refine wpList_store_row rfl 53 (.tmp 2) _ rfl b2 #[.string o, .int .i64 ty, .int .i64 cl, .int .i64 ttl, .string ⟨#[]⟩] rfl rfl _ _ I8.out.box2 ?hi ?ho ?h1 ?_; (case hi => kernel_rfl); (case ho => rfl); (case h1 => kernel_rfl)))
      obtain ⟨z1, z2, z3, z4⟩ := I8.out.ret (S := #[.string o, .int .i64 ty, .int .i64 cl, .int .i64 ttl, .string ⟨#[]⟩]) rfl
      exact bodyPost_ret (results_cell_row rfl _ _ b2 53 #[.string o, .int .i64 ty, .int .i64 cl, .int .i64 ttl, .string ⟨#[]⟩] (0, 0) _ rfl z1 Tryd.underlying53 rfl (by kernel_rfl)) rfl ⟨rfl, z2, z3, z4⟩
    · rw [if_neg hn2] at h
      have qn : (n == 0) = false := beq_eq_false_iff_ne.mpr hn2
      unfold recData at h
      replace h := Option.bind_eq_some_iff.mp h
      obtain ⟨hp, A10, h⟩ := h
      have H10 := Aside0.mk A10
      clear A10
      have H := Aside0.mk h
      clear h
      have kd0 := (blk_cell I8.out.dec 0).trans rfl
      have kd1 := (blk_cell I8.out.dec 1).trans rfl
      have kd2 := (blk_cell I8.out.dec 2).trans rfl
      have kf2 := blk_frozen I8.out.dec 2
      have kb1 := (blk_cell I8.out.box3 1).trans rfl
      go_wp2_with fail
      refine (impl_hasPointers.calls _ _ _ H10.out).mono ?_
      rintro e w10 ⟨rfl, hdr⟩
      have I9 := Aside0.mk (I8.out.below hdr.below)
      clear hdr I8 kd0 kd1 kd2 kf2 kb1 qn
      by_cases hp2 : hp = true
      case neg =>
        obtain rfl : hp = false := by simpa using hp2
        replace h := H.out
        rw [if_neg (by simp)] at h
        clear H
        replace h := Option.bind_eq_some_iff.mp h
        obtain ⟨⟨d, p6, c6⟩, A11, h⟩ := h
        have H11 := Aside0.mk A11
        have H := Aside0.mk h
        clear A11 h
        go_wp2_with fail
        refine (impl_decoder_take.calls v a A0 c0 l0 p5 0 n _ _ _ _ HR.out hc0 I9.out.bel I9.out.ha I9.out.dec H11.out).mono ?_
        rintro e w11 ⟨rfl, hd, hb, hg⟩
        have I10 := Aside0.mk (I9.out.step hd hb hg)
        clear hd hb hg I9
        have kc := (blk_cell I10.out.box3 4).trans rfl
        have kf := blk_frozen I10.out.box3 4
        have I11 := Aside0.mk (I10.out.put3 4 (.string d) rfl)
        clear I10
        go_upto_region 36 with fail
        clear kc kf
        generalize w11.setCell ⟨b3, 4, none⟩ (.string d) = w12 at *
        replace h := H.out
        clear H
        unfold recEnd at h
        replace h := Option.bind_eq_some_iff.mp h
        obtain ⟨x, AX, h⟩ := h
        have HX := Aside0.mk AX
        clear AX
        have kb1 := (blk_cell I11.out.box3 1).trans rfl
        have kb4 := (blk_cell I11.out.box3 4).trans rfl
        go_wp2_with fail
        refine (impl_CheckData.calls k _ _ _ _ HX.out (HG.out.below I11.out.bel)).mono ?_
        rintro e wx ⟨rfl, hb⟩
        have IX := Aside0.mk (I11.out.below hb)
        clear hb I11 kb1 kb4
        by_cases hx : x = 0
        · rw [if_pos hx] at h
          simp only [Option.some.injEq, Prod.mk.injEq] at h
          obtain ⟨rfl, rfl, rfl, rfl, rfl, rfl, rfl⟩ := h
          have qx : (x != 0) = false := bne_eq_false_iff_eq.mpr hx
          clear hx
          go_wp2_with (first | ((with_reducible refine gate_ (.load 53 (.tmp 3)) rfl ?_); refine wpList_load_row rfl 53 (.tmp 3) rfl b3 rfl 53 _ _ _ IX.out.box3 Tryd.underlying53 rfl ?hi ?_; (case hi => kernel_rfl)) | ((with_reducible refine gate_store (t := 53) (p := 2) rfl ?_); refine wpList_store_row rfl 53 (.tmp 2) _ rfl b2 #[.string o, .int .i64 ty, .int .i64 cl, .int .i64 ttl, .string (d)] rfl rfl _ _ IX.out.box2 ?hi ?ho ?h1 ?_; (case hi => kernel_rfl); (case ho => rfl); (case h1 => kernel_rfl)))
          obtain ⟨z1, z2, z3, z4⟩ := IX.out.ret (S := #[.string o, .int .i64 ty, .int .i64 cl, .int .i64 ttl, .string (d)]) rfl
          exact bodyPost_ret (results_cell_row rfl _ _ b2 53 #[.string o, .int .i64 ty, .int .i64 cl, .int .i64 ttl, .string (d)] (0, 0) _ rfl z1 Tryd.underlying53 rfl (by kernel_rfl)) rfl ⟨rfl, z2, z3, z4⟩
        · rw [if_neg hx] at h
          simp only [recZ, Option.some.injEq, Prod.mk.injEq] at h
          obtain ⟨rfl, rfl, rfl, rfl, rfl, rfl, rfl⟩ := h
          have qx : (x != 0) = true := bne_iff_ne.mpr hx
          clear hx
          have kd2 := (blk_cell IX.out.dec 2).trans rfl
          have kf2 := blk_frozen IX.out.dec 2
          have IY := Aside0.mk (IX.out.putd 2 (.int .i64 7) rfl)
          clear IX
          go_wp2_with (first | ((with_reducible refine gate_store (t := 53) (p := 2) rfl ?_); refine wpList_store_row rfl 53 (.tmp 2) _ rfl b2 #[.string ⟨#[]⟩, .int .i64 0, .int .i64 0, .int .i64 0, .string ⟨#[]⟩] rfl rfl _ _ IY.out.box2 ?hi ?ho ?h1 ?_; (case hi => kernel_rfl); (case ho => rfl); (case h1 => kernel_rfl)))
          obtain ⟨z1, z2, z3, z4⟩ := IY.out.ret (S := #[.string ⟨#[]⟩, .int .i64 0, .int .i64 0, .int .i64 0, .string ⟨#[]⟩]) rfl
          exact bodyPost_ret (results_cell_row rfl _ _ b2 53 #[.string ⟨#[]⟩, .int .i64 0, .int .i64 0, .int .i64 0, .string ⟨#[]⟩] (0, 0) _ rfl z1 Tryd.underlying53 rfl (by kernel_rfl)) rfl ⟨rfl, z2, z3, z4⟩
      case pos =>
        subst hp2
        replace h := H.out
        rw [if_pos rfl] at h
        clear H
        have kb1 := (blk_cell I9.out.box3 1).trans rfl
        have w15 : True → (ty == 15) = decide (ty = 15) := fun _ => rfl
        rcases (show ty = 15 ∨ (ty ≠ 15 ∧ ty = 6) ∨ (ty ≠ 15 ∧ ty ≠ 6) by omega) with t1 | ⟨t1, t2⟩ | ⟨t1, t2⟩
        case' inl => have t2 : ty ≠ 6 := by omega
        case' inl => simp only [if_pos t1, if_neg t2] at h
        case' inr.inl => simp only [if_neg t1, if_pos t2] at h
        case' inr.inr => simp only [if_neg t1, if_neg t2] at h
        case' inl => have t3 : (ty == 15) = true := beq_iff_eq.mpr t1
        case' inr.inl => have t3 : (ty == 15) = false := beq_eq_false_iff_ne.mpr t1
        case' inr.inr => have t3 : (ty == 15) = false := beq_eq_false_iff_ne.mpr t1
        case' inl => have t4 : (ty == 6) = false := beq_eq_false_iff_ne.mpr t2
        case' inr.inl => have t4 : (ty == 6) = true := beq_iff_eq.mpr t2
        case' inr.inr => have t4 : (ty == 6) = false := beq_eq_false_iff_ne.mpr t2
        all_goals clear t1 t2 w15
        all_goals split at h
        all_goals rename_i hlead
        case' inl.isTrue => have ql2 : decide (n < 2) = true := decide_eq_true hlead
        case' inl.isFalse => have ql2 : decide (n < 2) = false := decide_eq_false hlead
        case' inr.inl.isFalse => have ql2 : decide (n < 0) = false := decide_eq_false hlead
        case' inr.inr.isFalse => have ql2 : decide (n < 0) = false := decide_eq_false hlead
        case' inr.inl.isTrue => exact absurd hlead (by omega)
        case' inr.inr.isTrue => exact absurd hlead (by omega)
        case inl.isTrue =>
          simp only [recZ, Option.some.injEq, Prod.mk.injEq] at h
          obtain ⟨rfl, rfl, rfl, rfl, rfl, rfl, rfl⟩ := h
          have kd2 := (blk_cell I9.out.dec 2).trans rfl
          have kf2 := blk_frozen I9.out.dec 2
          have IY := Aside0.mk (I9.out.putd 2 (.int .i64 7) rfl)
          go_wp2_with (first | ((with_reducible refine gate_store (t := 53) (p := 2) rfl ?_); refine wpList_store_row rfl 53 (.tmp 2) _ rfl b2 #[.string ⟨#[]⟩, .int .i64 0, .int .i64 0, .int .i64 0, .string ⟨#[]⟩] rfl rfl _ _ IY.out.box2 ?hi ?ho ?h1 ?_; (case hi => kernel_rfl); (case ho => rfl); (case h1 => kernel_rfl)))
          obtain ⟨z1, z2, z3, z4⟩ := IY.out.ret (S := #[.string ⟨#[]⟩, .int .i64 0, .int .i64 0, .int .i64 0, .string ⟨#[]⟩]) rfl
          exact bodyPost_ret (results_cell_row rfl _ _ b2 53 #[.string ⟨#[]⟩, .int .i64 0, .int .i64 0, .int .i64 0, .string ⟨#[]⟩] (0, 0) _ rfl z1 Tryd.underlying53 rfl (by kernel_rfl)) rfl ⟨rfl, z2, z3, z4⟩
        all_goals
          replace h := Option.bind_eq_some_iff.mp h
          obtain ⟨⟨d0, p6, c6⟩, A11, h⟩ := h
          replace h := Option.bind_eq_some_iff.mp h
          obtain ⟨⟨ok, du, p7, c7⟩, A12, h⟩ := h
          have H11 := Aside0.mk A11
          have H12 := Aside0.mk A12
          have H := Aside0.mk h
          clear A11 A12 h hlead
          go_wp2_with fail
          refine (impl_decoder_take.calls v a A0 c0 l0 p5 0 _ _ _ _ _ HR.out hc0 I9.out.bel I9.out.ha I9.out.dec H11.out).mono ?_
          rintro e w11 ⟨rfl, hd, hb, hg⟩
          have I10 := Aside0.mk (I9.out.step hd hb hg)
          clear hd hb hg I9 kb1 t3 t4 ql2
          have kc := (blk_cell I10.out.box3 4).trans rfl
          have kf := blk_frozen I10.out.box3 4
          have I11 := Aside0.mk (I10.out.put3 4 (.string d0) rfl)
          clear I10
          go_wp2
          clear kc kf
          go_loopw [6] (fun i wr => ∃ (nm : Nat) (d : ByteArray) (p' c' : Int), i = .int .i64 nm ∧ nm ≤ 2 ∧ Aside0 (RecI v w wr a b2 b3 #[.slice A0 l0.length c0, .int .i64 p', .int .i64 c'] #[.string o, .int .i64 ty, .int .i64 cl, .int .i64 ttl, .string d]) ∧ Aside0 (recLoop k l0 (p5 + n) nm d p' c' = some (ok, du, p7, c7))) (fun i _ => (intOf i).toNat)
          case atStart => exact ⟨_, d0, p6, c6, rfl, (by first | decide | simp), I11, H12⟩
          case round =>
            clear I11 H11 H12
            obtain ⟨nm, d, p8, c8, rfl, hnm, I12, HL⟩ := hrel
            have IE := Aside0.mk I12.out.drew
            cases nm with
            | zero =>
              have hl := HL.out
              simp only [recLoop, Option.some.injEq, Prod.mk.injEq] at hl
              obtain ⟨rfl, rfl, rfl, rfl⟩ := hl
              replace h := H.out
              rw [if_pos rfl] at h
              replace h := Option.bind_eq_some_iff.mp h
              obtain ⟨⟨x1, p9, c9⟩, A13, h⟩ := h
              have hpb := take_guard A13
              have H13 := Aside0.mk A13
              split at h
              case isFalse => cases h
              case isTrue hsz =>
              have qs : (9223372036854775807 < d.size + x1.size) = False := eq_false (by dsimp only at hsz; omega)
              have H := Aside0.mk h
              clear A13 h HL hsz
              have e1 : IntKind.i64.wrap (p5 + n - p8) = p5 + n - p8 := IntWalk.i64_in _ ⟨by omega, by omega⟩
              have e2 : True → wrap64 (p5 + n - p8) = p5 + n - p8 := fun _ => by unfold wrap64; omega
              replace e1 : True → _ := fun _ => e1
              have k4 : wr.cell? ⟨b3, 4, none⟩ = some (.string d) := (blk_cell I12.out.box3 4).trans rfl
              have k1 : wr.cell? ⟨a, 1, none⟩ = some (.int .i64 p8) := (blk_cell I12.out.dec 1).trans rfl
              have q0 : decide ((0 : Int) < ((0 : Nat) : Int)) = false := rfl
              go_upto_region 35 with fail
              refine start_ (n := 13) (S := fun w' => w'.cell? ⟨b3, 4, none⟩ = some (.string d)) (ds := [12]) #[false, false, false, false, false, false, false, false, false, false, false, false, false] (by kernel_rfl) rfl rfl (k4) (fun hHeld => ?_)
              refine pure_ (i := 0) (N := some 103) (v := ?_) (a' := ?_) #[true, false, false, false, false, false, false, false, false, false, false, false, false] rfl rfl (by kernel_rfl) (fun _ _ _ h => h) (Or.inl ⟨by rfl, ?_⟩) ?_ ?_
              rotate_left
              · intro w'
                go_simp
                with_reducible rfl
              rotate_left
              · simp only [Act.put, List.setIfInBounds_toArray, List.set_cons_zero, List.set_cons_succ, i64_w, i32_w]
                rfl
              refine pure_ (i := 2) (N := some 105) (v := ?_) (a' := ?_) #[true, false, true, false, false, false, false, false, false, false, false, false, false] rfl rfl (by kernel_rfl) (fun _ _ _ h => h) (Or.inl ⟨by rfl, ?_⟩) ?_ ?_
              rotate_left
              · intro w'
                go_simp
                with_reducible rfl
              rotate_left
              · simp only [Act.put, List.setIfInBounds_toArray, List.set_cons_zero, List.set_cons_succ, i64_w, i32_w]
                rfl
              refine pure_ (i := 3) (N := some 106) (v := ?_) (a' := ?_) #[true, false, true, true, false, false, false, false, false, false, false, false, false] rfl rfl (by kernel_rfl) (fun _ _ _ h => h) (Or.inl ⟨by rfl, ?_⟩) ?_ ?_
              rotate_left
              · intro w'
                go_simp
                with_reducible rfl
              rotate_left
              · simp only [Act.put, List.setIfInBounds_toArray, List.set_cons_zero, List.set_cons_succ, i64_w, i32_w]
                rfl
              refine pure_ (i := 4) (N := some 107) (v := ?_) (a' := ?_) #[true, false, true, true, true, false, false, false, false, false, false, false, false] rfl rfl (by kernel_rfl) (fun _ _ _ h => h) (Or.inl ⟨by rfl, ?_⟩) ?_ ?_
              rotate_left
              · intro w'
                go_simp
                with_reducible rfl
              rotate_left
              · simp only [Act.put, List.setIfInBounds_toArray, List.set_cons_zero, List.set_cons_succ, i64_w, i32_w]
                rfl
              refine pure_ (i := 5) (N := some 108) (v := ?_) (a' := ?_) #[true, false, true, true, true, true, false, false, false, false, false, false, false] rfl rfl (by kernel_rfl) (fun _ _ _ h => h) (Or.inl ⟨by rfl, ?_⟩) ?_ ?_
              rotate_left
              · intro w'
                go_simp
                with_reducible rfl
              rotate_left
              · simp only [Act.put, List.setIfInBounds_toArray, List.set_cons_zero, List.set_cons_succ, i64_w, i32_w]
                rfl
              refine pure_ (i := 6) (N := some 109) (v := ?_) (a' := ?_) #[true, false, true, true, true, true, true, false, false, false, false, false, false] rfl rfl (by kernel_rfl) (fun _ _ _ h => h) (Or.inl ⟨by rfl, ?_⟩) ?_ ?_
              rotate_left
              · intro w'
                go_simp
                with_reducible rfl
              rotate_left
              · simp only [Act.put, List.setIfInBounds_toArray, List.set_cons_zero, List.set_cons_succ, i64_w, i32_w]
                rfl
              refine take_ (i := 1) (N := some 104) (v := ?_) (a' := ?_) #[true, true, true, true, true, true, true, false, false, false, false, false, false] rfl rfl (by kernel_rfl) (fun _ _ _ h => h) (Or.inl ⟨by rfl, ?_⟩) hHeld ?_ ?_
              rotate_left
              · intro w' s0
                go_simp
                with_reducible rfl
              rotate_left
              · simp only [Act.put, List.setIfInBounds_toArray, List.set_cons_zero, List.set_cons_succ, i64_w, i32_w]
                rfl
              refine one_ (i := 7) (N := some 110) #[true, true, true, true, true, true, true, true, false, false, false, false, false] rfl rfl (by kernel_rfl) (by decide) (fun K hK => ?_)
              refine value_ (w1 := ?_) (v := ?_) (by rfl) rfl ?_ ?_
              rotate_left 2
              · go_simp
                constructor
                · rfl
                · rfl
              refine hK.out _ _ (k4) (fun hHeld => ?_)
              clear hK K
              refine norm_ (a' := ?_) ?_ ?_
              rotate_left
              · show Act.put _ (some 110) _ = _
                simp only [Act.put, List.setIfInBounds_toArray, List.set_cons_zero, List.set_cons_succ, i64_w, i32_w]
                rfl
              refine pure_ (i := 8) (N := some 111) (v := ?_) (a' := ?_) #[true, true, true, true, true, true, true, true, true, false, false, false, false] rfl rfl (by kernel_rfl) (fun _ _ _ h => h) (Or.inl ⟨by rfl, ?_⟩) ?_ ?_
              rotate_left
              · intro w'
                go_simp
                with_reducible rfl
              rotate_left
              · simp only [Act.put, List.setIfInBounds_toArray, List.set_cons_zero, List.set_cons_succ, i64_w, i32_w]
                rfl
              refine one_ (i := 9) (N := some 112) #[true, true, true, true, true, true, true, true, true, true, false, false, false] rfl rfl (by kernel_rfl) (by decide) (fun K hK => ?_)
              refine goes_ Tryd.func16 (by kernel_rfl) rfl #[.pointer (some ⟨a, 0, none⟩), .int .i64 (p5 + n - p8)] (by rfl) rfl rfl (by simp only [List.map_toArray, List.map_cons, List.map_nil]; rfl) ?_
              with_reducible refine (impl_decoder_take.calls v a A0 c0 l0 p8 c8 _ _ _ _ _ HR.out hc0 IE.out.bel ha IE.out.dec H13.out).mono ?_
              rintro e w3 ⟨rfl, hd, hb, hg⟩
              refine ⟨_, rfl, ?_⟩
              have I14 := Aside0.mk (IE.out.step hd hb hg)
              have kc : w3.cell? ⟨b3, 4, none⟩ = some (.string d) := (blk_cell I14.out.box3 4).trans rfl
              have kf := blk_frozen I14.out.box3 4
              refine hK.out _ _ (kc) (fun hHeld => ?_)
              clear hK K
              refine norm_ (a' := ?_) ?_ ?_
              rotate_left
              · show Act.put _ (some 112) _ = _
                simp only [Act.put, List.setIfInBounds_toArray, List.set_cons_zero, List.set_cons_succ, i64_w, i32_w]
                rfl
              refine pure_ (i := 10) (N := some 113) (v := ?_) (a' := ?_) #[true, true, true, true, true, true, true, true, true, true, true, false, false] rfl rfl (by kernel_rfl) (fun _ _ _ h => h) (Or.inl ⟨by rfl, ?_⟩) ?_ ?_
              rotate_left
              · intro w'
                go_simp
                with_reducible rfl
              rotate_left
              · simp only [Act.put, List.setIfInBounds_toArray, List.set_cons_zero, List.set_cons_succ, i64_w, i32_w]
                rfl
              refine pure_ (i := 11) (N := some 114) (v := ?_) (a' := ?_) #[true, true, true, true, true, true, true, true, true, true, true, true, false] rfl rfl (by kernel_rfl) (fun _ _ _ h => h) (Or.inl ⟨by rfl, ?_⟩) ?_ ?_
              rotate_left
              · intro w'
                go_simp
                with_reducible rfl
              rotate_left
              · simp only [Act.put, List.setIfInBounds_toArray, List.set_cons_zero, List.set_cons_succ, i64_w, i32_w]
                rfl
              refine last_ (i := 12) (N := none) #[true, true, true, true, true, true, true, true, true, true, true, true, true] rfl rfl (by kernel_rfl) (by decide) (fun K hK => ?_)
              refine skip_ (w1 := ?_) (by rfl) rfl ?_ ?_
              rotate_left
              · go_simp
                rfl
              refine hK.out _ _ ?_
              clear hK K
              refine done_ (by kernel_rfl) ?_

              have I15 := Aside0.mk (I14.out.put3 4 (.string (d ++ x1)) rfl)
              clear kc kf k4 k1 e1 e2 I14 IE I12 hd hb hg
              go_upto_region 36 with fail
              generalize w3.setCell ⟨b3, 4, none⟩ (.string (d ++ x1)) = w4 at *
              replace h := H.out
              clear H
              unfold recEnd at h
              replace h := Option.bind_eq_some_iff.mp h
              obtain ⟨x, AX, h⟩ := h
              have HX := Aside0.mk AX
              clear AX
              have kb1 := (blk_cell I15.out.box3 1).trans rfl
              have kb4 := (blk_cell I15.out.box3 4).trans rfl
              go_wp2_with fail
              refine (impl_CheckData.calls k _ _ _ _ HX.out (HG.out.below I15.out.bel)).mono ?_
              rintro e wx ⟨rfl, hb⟩
              have IX := Aside0.mk (I15.out.below hb)
              clear hb I15 kb1 kb4
              by_cases hx : x = 0
              · rw [if_pos hx] at h
                simp only [Option.some.injEq, Prod.mk.injEq] at h
                obtain ⟨rfl, rfl, rfl, rfl, rfl, rfl, rfl⟩ := h
                have qx : (x != 0) = false := bne_eq_false_iff_eq.mpr hx
                clear hx
                go_wp2_with (first | ((with_reducible refine gate_ (.load 53 (.tmp 3)) rfl ?_); refine wpList_load_row rfl 53 (.tmp 3) rfl b3 rfl 53 _ _ _ IX.out.box3 Tryd.underlying53 rfl ?hi ?_; (case hi => kernel_rfl)) | ((with_reducible refine gate_store (t := 53) (p := 2) rfl ?_); refine wpList_store_row rfl 53 (.tmp 2) _ rfl b2 #[.string o, .int .i64 ty, .int .i64 cl, .int .i64 ttl, .string (d ++ x1)] rfl rfl _ _ IX.out.box2 ?hi ?ho ?h1 ?_; (case hi => kernel_rfl); (case ho => rfl); (case h1 => kernel_rfl)))
                obtain ⟨z1, z2, z3, z4⟩ := IX.out.ret (S := #[.string o, .int .i64 ty, .int .i64 cl, .int .i64 ttl, .string (d ++ x1)]) rfl
                exact bodyPost_ret (results_cell_row rfl _ _ b2 53 #[.string o, .int .i64 ty, .int .i64 cl, .int .i64 ttl, .string (d ++ x1)] (0, 0) _ rfl z1 Tryd.underlying53 rfl (by kernel_rfl)) rfl ⟨rfl, z2, z3, z4⟩
              · rw [if_neg hx] at h
                simp only [recZ, Option.some.injEq, Prod.mk.injEq] at h
                obtain ⟨rfl, rfl, rfl, rfl, rfl, rfl, rfl⟩ := h
                have qx : (x != 0) = true := bne_iff_ne.mpr hx
                clear hx
                have kd2 := (blk_cell IX.out.dec 2).trans rfl
                have kf2 := blk_frozen IX.out.dec 2
                have IY := Aside0.mk (IX.out.putd 2 (.int .i64 7) rfl)
                clear IX
                go_wp2_with (first | ((with_reducible refine gate_store (t := 53) (p := 2) rfl ?_); refine wpList_store_row rfl 53 (.tmp 2) _ rfl b2 #[.string ⟨#[]⟩, .int .i64 0, .int .i64 0, .int .i64 0, .string ⟨#[]⟩] rfl rfl _ _ IY.out.box2 ?hi ?ho ?h1 ?_; (case hi => kernel_rfl); (case ho => rfl); (case h1 => kernel_rfl)))
                obtain ⟨z1, z2, z3, z4⟩ := IY.out.ret (S := #[.string ⟨#[]⟩, .int .i64 0, .int .i64 0, .int .i64 0, .string ⟨#[]⟩]) rfl
                exact bodyPost_ret (results_cell_row rfl _ _ b2 53 #[.string ⟨#[]⟩, .int .i64 0, .int .i64 0, .int .i64 0, .string ⟨#[]⟩] (0, 0) _ rfl z1 Tryd.underlying53 rfl (by kernel_rfl)) rfl ⟨rfl, z2, z3, z4⟩
            | succ nm =>
              have hl := HL.out
              clear HL
              simp only [recLoop] at hl
              replace hl := Option.bind_eq_some_iff.mp hl
              obtain ⟨⟨x1, p9, c9⟩, A13, hl⟩ := hl
              have H13 := Aside0.mk A13
              clear A13
              split at hl
              case isFalse => cases hl
              case isTrue hsz =>
              have qs : (9223372036854775807 < d.size + x1.size) = False := eq_false (by dsimp only at hsz; omega)
              clear hsz
              have HL := Aside0.mk hl
              clear hl
              have k4 : wr.cell? ⟨b3, 4, none⟩ = some (.string d) := (blk_cell I12.out.box3 4).trans rfl
              have q0 : decide ((0 : Int) < ((nm + 1 : Nat) : Int)) = true := decide_eq_true (by omega)
              go_upto_region 29 with fail
              refine start_ (n := 7) (S := fun w' => w'.cell? ⟨b3, 4, none⟩ = some (.string d)) (ds := [6]) #[false, false, false, false, false, false, false] (by kernel_rfl) rfl rfl (k4) (fun hHeld => ?_)
              refine pure_ (i := 0) (N := some 81) (v := ?_) (a' := ?_) #[true, false, false, false, false, false, false] rfl rfl (by kernel_rfl) (fun _ _ _ h => h) (Or.inl ⟨by rfl, ?_⟩) ?_ ?_
              rotate_left
              · intro w'
                go_simp
                with_reducible rfl
              rotate_left
              · simp only [Act.put, List.setIfInBounds_toArray, List.set_cons_zero, List.set_cons_succ, i64_w, i32_w]
                rfl
              refine pure_ (i := 2) (N := some 83) (v := ?_) (a' := ?_) #[true, false, true, false, false, false, false] rfl rfl (by kernel_rfl) (fun _ _ _ h => h) (Or.inl ⟨by rfl, ?_⟩) ?_ ?_
              rotate_left
              · intro w'
                go_simp
                with_reducible rfl
              rotate_left
              · simp only [Act.put, List.setIfInBounds_toArray, List.set_cons_zero, List.set_cons_succ, i64_w, i32_w]
                rfl
              refine take_ (i := 1) (N := some 82) (v := ?_) (a' := ?_) #[true, true, true, false, false, false, false] rfl rfl (by kernel_rfl) (fun _ _ _ h => h) (Or.inl ⟨by rfl, ?_⟩) hHeld ?_ ?_
              rotate_left
              · intro w' s0
                go_simp
                with_reducible rfl
              rotate_left
              · simp only [Act.put, List.setIfInBounds_toArray, List.set_cons_zero, List.set_cons_succ, i64_w, i32_w]
                rfl
              refine one_ (i := 3) (N := some 84) #[true, true, true, true, false, false, false] rfl rfl (by kernel_rfl) (by decide) (fun K hK => ?_)
              refine goes_ Tryd.func14 (by kernel_rfl) rfl #[.pointer (some ⟨a, 0, none⟩)] (by rfl) rfl rfl (by simp only [List.map_toArray, List.map_cons, List.map_nil]; rfl) ?_
              with_reducible refine (impl_decoder_name.calls k v a A0 c0 l0 p8 c8 _ _ _ _ HR.out hc0 IE.out.bel ha IE.out.dec H13.out).mono ?_
              rintro e w3 ⟨rfl, hd, hb, hg⟩
              refine ⟨_, rfl, ?_⟩
              have I14 := Aside0.mk (IE.out.step hd hb hg)
              have kc : w3.cell? ⟨b3, 4, none⟩ = some (.string d) := (blk_cell I14.out.box3 4).trans rfl
              have kf := blk_frozen I14.out.box3 4
              refine hK.out _ _ (kc) (fun hHeld => ?_)
              clear hK K
              refine norm_ (a' := ?_) ?_ ?_
              rotate_left
              · show Act.put _ (some 84) _ = _
                simp only [Act.put, List.setIfInBounds_toArray, List.set_cons_zero, List.set_cons_succ, i64_w, i32_w]
                rfl
              refine pure_ (i := 4) (N := some 85) (v := ?_) (a' := ?_) #[true, true, true, true, true, false, false] rfl rfl (by kernel_rfl) (fun _ _ _ h => h) (Or.inl ⟨by rfl, ?_⟩) ?_ ?_
              rotate_left
              · intro w'
                go_simp
                with_reducible rfl
              rotate_left
              · simp only [Act.put, List.setIfInBounds_toArray, List.set_cons_zero, List.set_cons_succ, i64_w, i32_w]
                rfl
              refine pure_ (i := 5) (N := some 86) (v := ?_) (a' := ?_) #[true, true, true, true, true, true, false] rfl rfl (by kernel_rfl) (fun _ _ _ h => h) (Or.inl ⟨by rfl, ?_⟩) ?_ ?_
              rotate_left
              · intro w'
                go_simp
                with_reducible rfl
              rotate_left
              · simp only [Act.put, List.setIfInBounds_toArray, List.set_cons_zero, List.set_cons_succ, i64_w, i32_w]
                rfl
              refine last_ (i := 6) (N := none) #[true, true, true, true, true, true, true] rfl rfl (by kernel_rfl) (by decide) (fun K hK => ?_)
              refine skip_ (w1 := ?_) (by rfl) rfl ?_ ?_
              rotate_left
              · go_simp
                rfl
              refine hK.out _ _ ?_
              clear hK K
              refine done_ (by kernel_rfl) ?_

              have I15 := Aside0.mk (I14.out.put3 4 (.string (d ++ x1)) rfl)
              clear kc kf k4 I14 IE I12 hd hb hg
              go_upto_region 30 with fail
              generalize w3.setCell ⟨b3, 4, none⟩ (.string (d ++ x1)) = w4 at *
              have hl := HL.out
              dsimp only at hl
              clear HL
              have kd1 := (blk_cell I15.out.dec 1).trans rfl
              have kd2 := (blk_cell I15.out.dec 2).trans rfl
              have kf2 := blk_frozen I15.out.dec 2
              by_cases hc9 : c9 = 0
              · rw [if_pos hc9] at hl
                subst hc9
                by_cases hp9 : p9 > p5 + n
                · rw [if_pos hp9] at hl
                  simp only [Option.some.injEq, Prod.mk.injEq] at hl
                  obtain ⟨rfl, rfl, rfl, rfl⟩ := hl
                  replace h := H.out
                  rw [if_neg (by simp)] at h
                  simp only [recZ, Option.some.injEq, Prod.mk.injEq] at h
                  obtain ⟨rfl, rfl, rfl, rfl, rfl, rfl, rfl⟩ := h
                  have q9 : decide (p5 + n < p9) = true := decide_eq_true hp9
                  have IY := Aside0.mk (I15.out.putd 2 (.int .i64 7) rfl)
                  go_wp2_with (first | ((with_reducible refine gate_store (t := 53) (p := 2) rfl ?_); refine wpList_store_row rfl 53 (.tmp 2) _ rfl b2 #[.string ⟨#[]⟩, .int .i64 0, .int .i64 0, .int .i64 0, .string ⟨#[]⟩] rfl rfl _ _ IY.out.box2 ?hi ?ho ?h1 ?_; (case hi => kernel_rfl); (case ho => rfl); (case h1 => kernel_rfl)))
                  obtain ⟨z1, z2, z3, z4⟩ := IY.out.ret (S := #[.string ⟨#[]⟩, .int .i64 0, .int .i64 0, .int .i64 0, .string ⟨#[]⟩]) rfl
                  exact bodyPost_ret (results_cell_row rfl _ _ b2 53 #[.string ⟨#[]⟩, .int .i64 0, .int .i64 0, .int .i64 0, .string ⟨#[]⟩] (0, 0) _ rfl z1 Tryd.underlying53 rfl (by kernel_rfl)) rfl ⟨rfl, z2, z3, z4⟩
                · rw [if_neg hp9] at hl
                  have q9 : decide (p5 + n < p9) = false := decide_eq_false hp9
                  have HL := Aside0.mk hl
                  clear hl
                  go_wp2
                  go_roundw
                  case rel => exact ⟨nm, d ++ x1, p9, 0, by go_num, by omega, I15, HL⟩
                  case measure => simp [intOf]
              · rw [if_neg hc9] at hl
                simp only [Option.some.injEq, Prod.mk.injEq] at hl
                obtain ⟨rfl, rfl, rfl, rfl⟩ := hl
                replace h := H.out
                rw [if_neg (by simp)] at h
                simp only [recZ, Option.some.injEq, Prod.mk.injEq] at h
                obtain ⟨rfl, rfl, rfl, rfl, rfl, rfl, rfl⟩ := h
                have q9 : (c9 != 0) = true := bne_iff_ne.mpr hc9
                clear hc9
                go_wp2_with (first | ((with_reducible refine gate_store (t := 53) (p := 2) rfl ?_); refine wpList_store_row rfl 53 (.tmp 2) _ rfl b2 #[.string ⟨#[]⟩, .int .i64 0, .int .i64 0, .int .i64 0, .string ⟨#[]⟩] rfl rfl _ _ I15.out.box2 ?hi ?ho ?h1 ?_; (case hi => kernel_rfl); (case ho => rfl); (case h1 => kernel_rfl)))
                obtain ⟨z1, z2, z3, z4⟩ := I15.out.ret (S := #[.string ⟨#[]⟩, .int .i64 0, .int .i64 0, .int .i64 0, .string ⟨#[]⟩]) rfl
                exact bodyPost_ret (results_cell_row rfl _ _ b2 53 #[.string ⟨#[]⟩, .int .i64 0, .int .i64 0, .int .i64 0, .string ⟨#[]⟩] (0, 0) _ rfl z1 Tryd.underlying53 rfl (by kernel_rfl)) rfl ⟨rfl, z2, z3, z4⟩

end Go.Proofs.YtcamchdenjpmhaaDoor.F
