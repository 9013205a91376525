-- Written by a program of this session (wip/myprint.py, over the kit's print). Not trusted: Lean checks it.
import Derived.Test.YtbaajohjglhpfaaDoorFx0
namespace Go.Proofs.YtbaajohjglhpfaaDoor.F
open Go Go.Shelf Go.RowKit Go.Proofs.YtbaajohjglhpfaaDoorW.PrintWords Go.Proofs.YtbaajohjglhpfaaDoorW.PrintLast Go.Proofs.YtbaajohjglhpfaaDoorW.PrintMore
attribute [local go_sem] max2_int min2_int max_two min_two max_three min_three max_four min_four   -- for this text's walks alone
set_option linter.unusedVariables false
set_option linter.unusedSimpArgs false

/-! ### impl_MapTypes: function 42 -/
mutual
def impl_MapTypes.l0 : Nat → ByteArray → List Int → Int → Int → Option (List Int × Int)
  | 0, _, _, _, _ => none
  | k + 1, x0, x4, x5, x6 => if x6 < (x0.size : Int) then (if (wrap64 (x6 + 2)) > (x0.size : Int) then (some (([] : List Int), 7)) else (if 0 ≤ x6 then (if 0 ≤ (wrap64 (x6 + 1)) then (if (wrap64 (x6 + 1)) < (x0.size : Int) then (if (wrap64 (bt x0 x6)) ≤ x5 then (impl_MapTypes.j1 k x0 x4 x6 (wrap64 (bt x0 x6)) (wrap64 (bt x0 (wrap64 (x6 + 1)))) true) else (if (wrap64 (bt x0 (wrap64 (x6 + 1)))) < 1 then (impl_MapTypes.j1 k x0 x4 x6 (wrap64 (bt x0 x6)) (wrap64 (bt x0 (wrap64 (x6 + 1)))) true) else (if (wrap64 (bt x0 (wrap64 (x6 + 1)))) > 32 then (impl_MapTypes.j1 k x0 x4 x6 (wrap64 (bt x0 x6)) (wrap64 (bt x0 (wrap64 (x6 + 1)))) true) else (if (wrap64 ((wrap64 (x6 + 2)) + (wrap64 (bt x0 (wrap64 (x6 + 1)))))) > (x0.size : Int) then (impl_MapTypes.j1 k x0 x4 x6 (wrap64 (bt x0 x6)) (wrap64 (bt x0 (wrap64 (x6 + 1)))) true) else (if 0 ≤ (wrap64 ((wrap64 (x6 + 1)) + (wrap64 (bt x0 (wrap64 (x6 + 1)))))) then (if (wrap64 ((wrap64 (x6 + 1)) + (wrap64 (bt x0 (wrap64 (x6 + 1)))))) < (x0.size : Int) then (impl_MapTypes.j1 k x0 x4 x6 (wrap64 (bt x0 x6)) (wrap64 (bt x0 (wrap64 (x6 + 1)))) ((bt x0 (wrap64 ((wrap64 (x6 + 1)) + (wrap64 (bt x0 (wrap64 (x6 + 1))))))) == 0)) else (none)) else (none)))))) else (none)) else (none)) else (none))) else (some (x4, 0))
def impl_MapTypes.j1 : Nat → ByteArray → List Int → Int → Int → Int → Bool → Option (List Int × Int)
  | 0, _, _, _, _, _, _ => none
  | k + 1, x0, x4, x6, x7, x8, x57 => if x57 = true then (some (([] : List Int), 7)) else (impl_MapTypes.l1 k x0 x4 x7 x6 x7 x8 0)
def impl_MapTypes.l1 : Nat → ByteArray → List Int → Int → Int → Int → Int → Int → Option (List Int × Int)
  | 0, _, _, _, _, _, _, _ => none
  | k + 1, x0, x4, x5, x6, x7, x8, x9 => if x9 < x8 then (impl_MapTypes.l2 k x0 x4 x5 x6 x7 x8 x9 0) else (impl_MapTypes.l0 k x0 x4 x5 (wrap64 (x6 + (wrap64 (2 + x8)))))
def impl_MapTypes.l2 : Nat → ByteArray → List Int → Int → Int → Int → Int → Int → Int → Option (List Int × Int)
  | 0, _, _, _, _, _, _, _, _ => none
  | k + 1, x0, x4, x5, x6, x7, x8, x9, x10 => if x10 < 8 then (if 0 ≤ (wrap64 ((wrap64 (x6 + 2)) + x9)) then (if (wrap64 ((wrap64 (x6 + 2)) + x9)) < (x0.size : Int) then (if 0 ≤ (wrap64 (7 - x10)) then (if (Go.bits .and .u8 (shr .u8 (bt x0 (wrap64 ((wrap64 (x6 + 2)) + x9))) (wrap64 (7 - x10))) 1) = 1 then (if x4.length < 17592186044416 then (impl_MapTypes.l2 k x0 (x4 ++ [wrap64 ((wrap64 ((wrap64 (256 * x7)) + (wrap64 (8 * x9)))) + x10)]) x5 x6 x7 x8 x9 (wrap64 (x10 + 1))) else (none)) else (impl_MapTypes.l2 k x0 x4 x5 x6 x7 x8 x9 (wrap64 (x10 + 1)))) else (none)) else (none)) else (none)) else (impl_MapTypes.l1 k x0 x4 x5 x6 x7 x8 (wrap64 (x9 + 1)))
end
def impl_MapTypes.f (k : Nat) (a0 : ByteArray) : Option (List Int × Int) := impl_MapTypes.l0 k a0 ([] : List Int) (-1) 0
theorem impl_MapTypes.mono_l : ∀ k, (∀ y0 y1 y2 y3, LeO (impl_MapTypes.l0 k y0 y1 y2 y3) (impl_MapTypes.l0 (k + 1) y0 y1 y2 y3)) ∧ (∀ y0 y1 y2 y3 y4 y5, LeO (impl_MapTypes.j1 k y0 y1 y2 y3 y4 y5) (impl_MapTypes.j1 (k + 1) y0 y1 y2 y3 y4 y5)) ∧ (∀ y0 y1 y2 y3 y4 y5 y6, LeO (impl_MapTypes.l1 k y0 y1 y2 y3 y4 y5 y6) (impl_MapTypes.l1 (k + 1) y0 y1 y2 y3 y4 y5 y6)) ∧ (∀ y0 y1 y2 y3 y4 y5 y6 y7, LeO (impl_MapTypes.l2 k y0 y1 y2 y3 y4 y5 y6 y7) (impl_MapTypes.l2 (k + 1) y0 y1 y2 y3 y4 y5 y6 y7))
  | 0 => ⟨fun _ _ _ _ r h => by simp [impl_MapTypes.l0] at h, fun _ _ _ _ _ _ r h => by simp [impl_MapTypes.j1] at h, fun _ _ _ _ _ _ _ r h => by simp [impl_MapTypes.l1] at h, fun _ _ _ _ _ _ _ _ r h => by simp [impl_MapTypes.l2] at h⟩
  | k + 1 => by
    obtain ⟨ih0, ih1, ih2, ih3⟩ := impl_MapTypes.mono_l k
    refine ⟨?_, ?_, ?_, ?_⟩
    · intro y0 y1 y2 y3
      unfold impl_MapTypes.l0
      repeat' first
      | (with_reducible exact ih0 _ _ _ _)
      | (with_reducible exact ih1 _ _ _ _ _ _)
      | (with_reducible exact ih2 _ _ _ _ _ _ _)
      | (with_reducible exact ih3 _ _ _ _ _ _ _ _)
      | (with_reducible exact LeO.refl _)
      | (with_reducible exact LeO.none _)
      | (with_reducible refine LeO.ite ?_ ?_)
      | (with_reducible refine LeO.bind ?_ (fun _ => ?_))
      | exact ih0 _ _ _ _
      | exact ih1 _ _ _ _ _ _
      | exact ih2 _ _ _ _ _ _ _
      | exact ih3 _ _ _ _ _ _ _ _
      | exact LeO.none _
      | refine LeO.ite ?_ ?_
      | refine LeO.bind ?_ (fun _ => ?_)
    · intro y0 y1 y2 y3 y4 y5
      unfold impl_MapTypes.j1
      repeat' first
      | (with_reducible exact ih0 _ _ _ _)
      | (with_reducible exact ih1 _ _ _ _ _ _)
      | (with_reducible exact ih2 _ _ _ _ _ _ _)
      | (with_reducible exact ih3 _ _ _ _ _ _ _ _)
      | (with_reducible exact LeO.refl _)
      | (with_reducible exact LeO.none _)
      | (with_reducible refine LeO.ite ?_ ?_)
      | (with_reducible refine LeO.bind ?_ (fun _ => ?_))
      | exact ih0 _ _ _ _
      | exact ih1 _ _ _ _ _ _
      | exact ih2 _ _ _ _ _ _ _
      | exact ih3 _ _ _ _ _ _ _ _
      | exact LeO.none _
      | refine LeO.ite ?_ ?_
      | refine LeO.bind ?_ (fun _ => ?_)
    · intro y0 y1 y2 y3 y4 y5 y6
      unfold impl_MapTypes.l1
      repeat' first
      | (with_reducible exact ih0 _ _ _ _)
      | (with_reducible exact ih1 _ _ _ _ _ _)
      | (with_reducible exact ih2 _ _ _ _ _ _ _)
      | (with_reducible exact ih3 _ _ _ _ _ _ _ _)
      | (with_reducible exact LeO.refl _)
      | (with_reducible exact LeO.none _)
      | (with_reducible refine LeO.ite ?_ ?_)
      | (with_reducible refine LeO.bind ?_ (fun _ => ?_))
      | exact ih0 _ _ _ _
      | exact ih1 _ _ _ _ _ _
      | exact ih2 _ _ _ _ _ _ _
      | exact ih3 _ _ _ _ _ _ _ _
      | exact LeO.none _
      | refine LeO.ite ?_ ?_
      | refine LeO.bind ?_ (fun _ => ?_)
    · intro y0 y1 y2 y3 y4 y5 y6 y7
      unfold impl_MapTypes.l2
      repeat' first
      | (with_reducible exact ih0 _ _ _ _)
      | (with_reducible exact ih1 _ _ _ _ _ _)
      | (with_reducible exact ih2 _ _ _ _ _ _ _)
      | (with_reducible exact ih3 _ _ _ _ _ _ _ _)
      | (with_reducible exact LeO.refl _)
      | (with_reducible exact LeO.none _)
      | (with_reducible refine LeO.ite ?_ ?_)
      | (with_reducible refine LeO.bind ?_ (fun _ => ?_))
      | exact ih0 _ _ _ _
      | exact ih1 _ _ _ _ _ _
      | exact ih2 _ _ _ _ _ _ _
      | exact ih3 _ _ _ _ _ _ _ _
      | exact LeO.none _
      | refine LeO.ite ?_ ?_
      | refine LeO.bind ?_ (fun _ => ?_)
theorem impl_MapTypes.mono : ∀ a0 k, LeO (impl_MapTypes.f k a0) (impl_MapTypes.f (k + 1) a0) := by
  intro a0 k
  obtain ⟨ih0, ih1, ih2, ih3⟩ := impl_MapTypes.mono_l k
  unfold impl_MapTypes.f
  repeat' first
      | (with_reducible exact ih0 _ _ _ _)
      | (with_reducible exact ih1 _ _ _ _ _ _)
      | (with_reducible exact ih2 _ _ _ _ _ _ _)
      | (with_reducible exact ih3 _ _ _ _ _ _ _ _)
      | (with_reducible exact LeO.refl _)
      | (with_reducible exact LeO.none _)
      | (with_reducible refine LeO.ite ?_ ?_)
      | (with_reducible refine LeO.bind ?_ (fun _ => ?_))
      | exact ih0 _ _ _ _
      | exact ih1 _ _ _ _ _ _
      | exact ih2 _ _ _ _ _ _ _
      | exact ih3 _ _ _ _ _ _ _ _
      | exact LeO.none _
      | refine LeO.ite ?_ ?_
      | refine LeO.bind ?_ (fun _ => ?_)
set_option maxHeartbeats 8000000 in
set_option maxRecDepth 100000 in
theorem impl_MapTypes.calls (k : Nat) (a0 : ByteArray) (r1 : List Int) (r2 : Int) (w : World) (h : impl_MapTypes.f k a0 = some (r1, r2)) :
    Calls Tryd.prog 42 #[.string a0] w fun e w' => ∃ v0_ : Value, e = .returned (.tuple #[v0_, .int .i64 r2]) ∧ Kd.R (Kd.int .i64) 2 w' w.heap.size (fun _ => True) v0_ r1 ∧ Below w.heap.size w w' := by
  have HB := Aside0.mk (Below.refl w.heap.size w)
  have H : (impl_MapTypes.l0 k a0 ([] : List Int) (-1) 0) = some (r1, r2) := h
  clear h
  have H' := Aside0.mk H
  clear H
  go_enter Tryd.func42, Tryd.ntmps42
  go_wp2
  repeat (go_quiet (fail); try go_wp2)
  go_loopg [4, 5, 6] k (fun kq v4 v5 v6 w' => ∃ (x4_1 : List Int) (x5_1 : Int) (x6_1 : Int), v5 = .int .i64 x5_1 ∧ v6 = .int .i64 x6_1 ∧ Aside0 (impl_MapTypes.l0 kq a0 x4_1 x5_1 x6_1 = some (r1, r2)) ∧ Aside0 (kq ≤ k) ∧ Aside0 (Kd.R (Kd.int .i64) 2 w' w.heap.size (fun _ => True) v4 x4_1) ∧ Aside0 (Below w.heap.size w w'))
  case atStart => exact ⟨(([] : List Int)), ((-1)), (0), (by first | rfl | (simp; done) | (simp [*]; done)), (by first | rfl | (simp; done) | (simp [*]; done)), H', ⟨Nat.le_refl _⟩, ⟨by first | exact Kd.R_nil _ _ _ _ _ | exact Kd.N_nil _ _ _ _ _ | exact Kd.V_nil _ _ _ _ _ | exact Kd.Q_nil _ _ _ _ _ | exact Kd.S_nil _ _ _ _ _⟩, ⟨by repeat (first | (with_reducible first | exact HB.out | apply below_alloc | apply pw_below_drewN | apply below_drew1) | exact HB.out)⟩⟩
  case round =>
    clear H'
    obtain ⟨x4_1, x5_1, x6_1, rfl, rfl, HA, HK1, HO_4, HB⟩ := hrel
    cases gk with
    | zero => exact absurd HA.out (by simp [impl_MapTypes.l0])
    | succ k1 =>
      have H := HA.out
      clear HA
      simp only [impl_MapTypes.l0] at H
      by_cases c2 : x6_1 < (a0.size : Int)
      · rw [if_pos c2] at H
        have c2b0 : decide (x6_1 < (a0.size : Int)) = true := decide_eq_true c2
        clear c2
        by_cases c3 : (wrap64 (x6_1 + 2)) > (a0.size : Int)
        · rw [if_pos c3] at H
          have c3b0 : decide ((a0.size : Int) < (wrap64 (x6_1 + 2))) = true := decide_eq_true c3
          clear c3
          simp only [Option.some.injEq, Prod.mk.injEq] at H
          obtain ⟨rfl, rfl⟩ := H
          go_wp2
          repeat (go_quiet (fail); try go_wp2)
          go_ret2
          exact ⟨_, by first | rfl | (simp [errW_none, errW_some] <;> rfl) | (simp [*, errW_none, errW_some] <;> rfl), by first | exact Kd.R_nil _ _ _ _ _ | exact Kd.N_nil _ _ _ _ _ | exact Kd.V_nil _ _ _ _ _ | exact Kd.Q_nil _ _ _ _ _ | exact Kd.S_nil _ _ _ _ _, by repeat (first | (with_reducible first | exact HB.out | apply below_alloc | apply pw_below_drewN | apply below_drew1) | exact HB.out)⟩
        · rw [if_neg c3] at H
          have c3b0 : decide ((a0.size : Int) < (wrap64 (x6_1 + 2))) = false := decide_eq_false c3
          clear c3
          by_cases c4 : 0 ≤ x6_1
          · rw [if_pos c4] at H
            have c4b0 : decide (0 ≤ x6_1) = true := decide_eq_true c4
            clear c4
            obtain ⟨ji6, hji6⟩ : ∃ j_ : Int, (wrap64 (x6_1 + 1)) = j_ := ⟨_, rfl⟩
            replace H : (if 0 ≤ (ji6) then (if (ji6) < (a0.size : Int) then (if (wrap64 (bt a0 x6_1)) ≤ x5_1 then (impl_MapTypes.j1 k1 a0 x4_1 x6_1 (wrap64 (bt a0 x6_1)) (wrap64 (bt a0 (ji6))) true) else (if (wrap64 (bt a0 (ji6))) < 1 then (impl_MapTypes.j1 k1 a0 x4_1 x6_1 (wrap64 (bt a0 x6_1)) (wrap64 (bt a0 (ji6))) true) else (if (wrap64 (bt a0 (ji6))) > 32 then (impl_MapTypes.j1 k1 a0 x4_1 x6_1 (wrap64 (bt a0 x6_1)) (wrap64 (bt a0 (ji6))) true) else (if (wrap64 ((wrap64 (x6_1 + 2)) + (wrap64 (bt a0 (ji6))))) > (a0.size : Int) then (impl_MapTypes.j1 k1 a0 x4_1 x6_1 (wrap64 (bt a0 x6_1)) (wrap64 (bt a0 (ji6))) true) else (if 0 ≤ (wrap64 ((ji6) + (wrap64 (bt a0 (ji6))))) then (if (wrap64 ((ji6) + (wrap64 (bt a0 (ji6))))) < (a0.size : Int) then (impl_MapTypes.j1 k1 a0 x4_1 x6_1 (wrap64 (bt a0 x6_1)) (wrap64 (bt a0 (ji6))) ((bt a0 (wrap64 ((ji6) + (wrap64 (bt a0 (ji6)))))) == 0)) else (none)) else (none)))))) else (none)) else (none)) = some (r1, r2) := by first | (rw [hji6] at H; exact H) | (simp only [hji6] at H ⊢; exact H)
            have hji6w : (IntKind.i64.wrap (x6_1 + 1)) = ji6 := (i64_w _).trans hji6
            by_cases c7 : 0 ≤ (ji6)
            · rw [if_pos c7] at H
              have c7b0 : decide (0 ≤ (ji6)) = true := decide_eq_true c7
              clear c7
              by_cases c8 : (ji6) < (a0.size : Int)
              · rw [if_pos c8] at H
                have c8b0 : decide ((ji6) < (a0.size : Int)) = true := decide_eq_true c8
                clear c8
                have HC10 := Aside0.mk H
                clear H
                have p5 : 0 ≤ (x6_1 : Int) := of_decide_eq_true (by first | (with_reducible assumption) | assumption)
                have q5 : x6_1 < (a0.size : Int) := of_decide_eq_true (by first | (with_reducible assumption) | assumption)
                have hx5 := bt_at a0 x6_1
                replace p5 := eq_true p5
                replace q5 := eq_true q5
                have p9 : 0 ≤ ((ji6) : Int) := of_decide_eq_true (by first | (with_reducible assumption) | assumption)
                have q9 : (ji6) < (a0.size : Int) := of_decide_eq_true (by first | (with_reducible assumption) | assumption)
                have hx9 := bt_at a0 (ji6)
                replace p9 := eq_true p9
                replace q9 := eq_true q9
                go_upto_region 8 with (fail)
                repeat (go_quiet (fail); go_upto_region 8 with (fail))
                go_cut [57] (fun v57 wc => ∃ (kq : Nat) (x57_9 : Bool), v57 = .bool x57_9 ∧ Aside0 (impl_MapTypes.j1 kq a0 x4_1 x6_1 (wrap64 (bt a0 x6_1)) (wrap64 (bt a0 (ji6))) x57_9 = some (r1, r2)) ∧ Aside0 (kq ≤ k1) ∧ Aside0 (Kd.R (Kd.int .i64) 2 wc w.heap.size (fun _ => True) u4 x4_1) ∧ Aside0 (Below w.heap.size w wc))
                case first =>
                  have H := HC10.out
                  clear HC10
                  by_cases c11 : (wrap64 (bt a0 x6_1)) ≤ x5_1
                  · rw [if_pos c11] at H
                    have c11b0 : decide ((wrap64 (bt a0 x6_1)) ≤ x5_1) = true := decide_eq_true c11
                    clear c11
                    (first | rw [c11b0] | (simp only [i64_w, i32_w]; rw [c11b0]) | skip)
                    have H' := Aside0.mk H
                    clear H
                    go_wp2
                    repeat (go_quiet (fail); try go_wp2)
                    go_meet
                    case rel => exact ⟨_, (true), (by first | rfl | (simp; done) | (simp [*]; done)), H', ⟨by have := HK1.out; first | omega | exact Nat.le_refl _⟩, ⟨by (with_reducible repeat (first | apply Kd.R_alloc | apply Kd.R_drewN | apply Kd.R_drew)); exact HO_4.out⟩, ⟨by repeat (first | (with_reducible first | exact HB.out | apply below_alloc | apply pw_below_drewN | apply below_drew1) | exact HB.out)⟩⟩
                  · rw [if_neg c11] at H
                    have c11b0 : decide ((wrap64 (bt a0 x6_1)) ≤ x5_1) = false := decide_eq_false c11
                    clear c11
                    (first | rw [c11b0] | (simp only [i64_w, i32_w]; rw [c11b0]) | skip)
                    by_cases c12 : (wrap64 (bt a0 (ji6))) < 1
                    · rw [if_pos c12] at H
                      have c12b0 : decide ((wrap64 (bt a0 (ji6))) < 1) = true := decide_eq_true c12
                      clear c12
                      have H' := Aside0.mk H
                      clear H
                      go_wp2
                      repeat (go_quiet (fail); try go_wp2)
                      go_meet
                      case rel => exact ⟨_, (true), (by first | rfl | (simp; done) | (simp [*]; done)), H', ⟨by have := HK1.out; first | omega | exact Nat.le_refl _⟩, ⟨by (with_reducible repeat (first | apply Kd.R_alloc | apply Kd.R_drewN | apply Kd.R_drew)); exact HO_4.out⟩, ⟨by repeat (first | (with_reducible first | exact HB.out | apply below_alloc | apply pw_below_drewN | apply below_drew1) | exact HB.out)⟩⟩
                    · rw [if_neg c12] at H
                      have c12b0 : decide ((wrap64 (bt a0 (ji6))) < 1) = false := decide_eq_false c12
                      clear c12
                      by_cases c13 : (wrap64 (bt a0 (ji6))) > 32
                      · rw [if_pos c13] at H
                        have c13b0 : decide (32 < (wrap64 (bt a0 (ji6)))) = true := decide_eq_true c13
                        clear c13
                        have H' := Aside0.mk H
                        clear H
                        go_wp2
                        repeat (go_quiet (fail); try go_wp2)
                        go_meet
                        case rel => exact ⟨_, (true), (by first | rfl | (simp; done) | (simp [*]; done)), H', ⟨by have := HK1.out; first | omega | exact Nat.le_refl _⟩, ⟨by (with_reducible repeat (first | apply Kd.R_alloc | apply Kd.R_drewN | apply Kd.R_drew)); exact HO_4.out⟩, ⟨by repeat (first | (with_reducible first | exact HB.out | apply below_alloc | apply pw_below_drewN | apply below_drew1) | exact HB.out)⟩⟩
                      · rw [if_neg c13] at H
                        have c13b0 : decide (32 < (wrap64 (bt a0 (ji6)))) = false := decide_eq_false c13
                        clear c13
                        by_cases c14 : (wrap64 ((wrap64 (x6_1 + 2)) + (wrap64 (bt a0 (ji6))))) > (a0.size : Int)
                        · rw [if_pos c14] at H
                          have c14b0 : decide ((a0.size : Int) < (wrap64 ((wrap64 (x6_1 + 2)) + (wrap64 (bt a0 (ji6)))))) = true := decide_eq_true c14
                          clear c14
                          have H' := Aside0.mk H
                          clear H
                          go_wp2
                          repeat (go_quiet (fail); try go_wp2)
                          go_meet
                          case rel => exact ⟨_, (true), (by first | rfl | (simp; done) | (simp [*]; done)), H', ⟨by have := HK1.out; first | omega | exact Nat.le_refl _⟩, ⟨by (with_reducible repeat (first | apply Kd.R_alloc | apply Kd.R_drewN | apply Kd.R_drew)); exact HO_4.out⟩, ⟨by repeat (first | (with_reducible first | exact HB.out | apply below_alloc | apply pw_below_drewN | apply below_drew1) | exact HB.out)⟩⟩
                        · rw [if_neg c14] at H
                          have c14b0 : decide ((a0.size : Int) < (wrap64 ((wrap64 (x6_1 + 2)) + (wrap64 (bt a0 (ji6)))))) = false := decide_eq_false c14
                          clear c14
                          obtain ⟨ji15, hji15⟩ : ∃ j_ : Int, (wrap64 ((ji6) + (wrap64 (bt a0 (ji6))))) = j_ := ⟨_, rfl⟩
                          replace H : (if 0 ≤ (ji15) then (if (ji15) < (a0.size : Int) then (impl_MapTypes.j1 k1 a0 x4_1 x6_1 (wrap64 (bt a0 x6_1)) (wrap64 (bt a0 (ji6))) ((bt a0 (ji15)) == 0)) else (none)) else (none)) = some (r1, r2) := by first | (rw [hji15] at H; exact H) | (simp only [hji15] at H ⊢; exact H)
                          have hji15w : (IntKind.i64.wrap ((ji6) + (wrap64 (bt a0 (ji6))))) = ji15 := (i64_w _).trans hji15
                          by_cases c16 : 0 ≤ (ji15)
                          · rw [if_pos c16] at H
                            have c16b0 : decide (0 ≤ (ji15)) = true := decide_eq_true c16
                            clear c16
                            by_cases c17 : (ji15) < (a0.size : Int)
                            · rw [if_pos c17] at H
                              have c17b0 : decide ((ji15) < (a0.size : Int)) = true := decide_eq_true c17
                              clear c17
                              have H' := Aside0.mk H
                              clear H
                              have p18 : 0 ≤ ((ji15) : Int) := of_decide_eq_true (by first | (with_reducible assumption) | assumption)
                              have q18 : (ji15) < (a0.size : Int) := of_decide_eq_true (by first | (with_reducible assumption) | assumption)
                              have hx18 := bt_at a0 (ji15)
                              replace p18 := eq_true p18
                              replace q18 := eq_true q18
                              go_wp2
                              repeat (go_quiet (fail); try go_wp2)
                              go_meet
                              case rel => exact ⟨_, (((bt a0 (ji15)) == 0)), (by first | rfl | (simp; done) | (simp only [← hji15] <;> (first | rfl | simp)) | (simp [*]; done)), H', ⟨by have := HK1.out; first | omega | exact Nat.le_refl _⟩, ⟨by (with_reducible repeat (first | apply Kd.R_alloc | apply Kd.R_drewN | apply Kd.R_drew)); exact HO_4.out⟩, ⟨by repeat (first | (with_reducible first | exact HB.out | apply below_alloc | apply pw_below_drewN | apply below_drew1) | exact HB.out)⟩⟩
                            · rw [if_neg c17] at H
                              exact absurd H (by simp)
                          · rw [if_neg c16] at H
                            exact absurd H (by simp)
                case rest =>
                  clear HC10
                  try clear c1
                  try clear p1
                  try clear q1
                  try clear hx1
                  try clear c2
                  try clear c2b0
                  try clear p2
                  try clear c3
                  try clear c3b0
                  try clear c4
                  try clear c4b0
                  try clear p5
                  try clear q5
                  try clear hx5
                  try clear p6
                  try clear c7
                  try clear c7b0
                  try clear c8
                  try clear c8b0
                  try clear p9
                  try clear q9
                  try clear hx9
                  try clear c11
                  try clear c11b0
                  try clear c12
                  try clear c12b0
                  try clear c13
                  try clear c13b0
                  try clear c14
                  try clear c14b0
                  try clear c16
                  try clear c16b0
                  try clear c17
                  try clear c17b0
                  try clear p18
                  try clear q18
                  try clear hx18
                  try clear p18
                  try clear p5
                  try clear p9
                  try clear q18
                  try clear q5
                  try clear q9
                  obtain ⟨kq, x57_9, rfl, HA, HJ9, HO_4, HB⟩ := hcut
                  cases kq with
                  | zero => exact absurd HA.out (by simp [impl_MapTypes.j1])
                  | succ kj9 =>
                    have H := HA.out
                    clear HA
                    simp only [impl_MapTypes.j1] at H
                    by_cases c19 : x57_9 = true
                    · subst c19
                      have H1 : (some (([] : List Int), 7)) = some (r1, r2) := by rw [if_pos rfl] at H; exact H
                      clear H
                      have H := H1
                      clear H1
                      simp only [Option.some.injEq, Prod.mk.injEq] at H
                      obtain ⟨rfl, rfl⟩ := H
                      go_wp2
                      repeat (go_quiet (fail); try go_wp2)
                      go_ret2
                      exact ⟨_, by first | rfl | (simp [errW_none, errW_some] <;> rfl) | (simp only [← hji6]; first | rfl | (simp [errW_none, errW_some] <;> rfl)) | (simp [*, errW_none, errW_some] <;> rfl), by first | exact Kd.R_nil _ _ _ _ _ | exact Kd.N_nil _ _ _ _ _ | exact Kd.V_nil _ _ _ _ _ | exact Kd.Q_nil _ _ _ _ _ | exact Kd.S_nil _ _ _ _ _, by repeat (first | (with_reducible first | exact HB.out | apply below_alloc | apply pw_below_drewN | apply below_drew1) | exact HB.out)⟩
                    · replace c19 := Bool.eq_false_iff.mpr c19
                      subst c19
                      have H1 : (impl_MapTypes.l1 kj9 a0 x4_1 (wrap64 (bt a0 x6_1)) x6_1 (wrap64 (bt a0 x6_1)) (wrap64 (bt a0 (ji6))) 0) = some (r1, r2) := by rw [if_neg (show ¬ (false = true) by decide)] at H; exact H
                      clear H
                      have H := H1
                      clear H1
                      have H' := Aside0.mk H
                      clear H
                      go_wp2
                      repeat (go_quiet (fail); try go_wp2)
                      go_loopg [4, 9] kj9 (fun kq v4 v9 w' => ∃ (x4_3 : List Int) (x9_3 : Int), v9 = .int .i64 x9_3 ∧ Aside0 (impl_MapTypes.l1 kq a0 x4_3 (wrap64 (bt a0 x6_1)) x6_1 (wrap64 (bt a0 x6_1)) (wrap64 (bt a0 (ji6))) x9_3 = some (r1, r2)) ∧ Aside0 (kq ≤ kj9) ∧ Aside0 (Kd.R (Kd.int .i64) 2 w' w.heap.size (fun _ => True) v4 x4_3) ∧ Aside0 (Below w.heap.size w w'))
                      case atStart => exact ⟨(x4_1), (0), (by first | rfl | (simp; done) | (simp [*]; done)), H', ⟨Nat.le_refl _⟩, ⟨by (with_reducible repeat (first | apply Kd.R_alloc | apply Kd.R_drewN | apply Kd.R_drew)); exact HO_4.out⟩, ⟨by repeat (first | (with_reducible first | exact HB.out | apply below_alloc | apply pw_below_drewN | apply below_drew1) | exact HB.out)⟩⟩
                      case round =>
                        clear H'
                        try clear c1
                        try clear p1
                        try clear q1
                        try clear hx1
                        try clear c2
                        try clear c2b0
                        try clear p2
                        try clear c3
                        try clear c3b0
                        try clear c4
                        try clear c4b0
                        try clear p5
                        try clear q5
                        try clear hx5
                        try clear p6
                        try clear c7
                        try clear c7b0
                        try clear c8
                        try clear c8b0
                        try clear p9
                        try clear q9
                        try clear hx9
                        try clear c11
                        try clear c11b0
                        try clear c12
                        try clear c12b0
                        try clear c13
                        try clear c13b0
                        try clear c14
                        try clear c14b0
                        try clear c16
                        try clear c16b0
                        try clear c17
                        try clear c17b0
                        try clear p18
                        try clear q18
                        try clear hx18
                        try clear c19
                        try clear p1
                        try clear p18
                        try clear p2
                        try clear p5
                        try clear p6
                        try clear p9
                        try clear q1
                        try clear q18
                        try clear q5
                        try clear q9
                        obtain ⟨x4_3, x9_3, rfl, HA, HK3, HO_4, HB⟩ := hrel
                        cases gk with
                        | zero => exact absurd HA.out (by simp [impl_MapTypes.l1])
                        | succ k3 =>
                          have H := HA.out
                          clear HA
                          simp only [impl_MapTypes.l1] at H
                          by_cases c20 : x9_3 < (wrap64 (bt a0 (ji6)))
                          · rw [if_pos c20] at H
                            have c20b0 : decide (x9_3 < (wrap64 (bt a0 (ji6)))) = true := decide_eq_true c20
                            clear c20
                            have H' := Aside0.mk H
                            clear H
                            go_wp2
                            repeat (go_quiet (fail); try go_wp2)
                            go_loopg [4, 10] k3 (fun kq v4 v10 w' => ∃ (x4_4 : List Int) (x10_4 : Int), v10 = .int .i64 x10_4 ∧ Aside0 (impl_MapTypes.l2 kq a0 x4_4 (wrap64 (bt a0 x6_1)) x6_1 (wrap64 (bt a0 x6_1)) (wrap64 (bt a0 (ji6))) x9_3 x10_4 = some (r1, r2)) ∧ Aside0 (kq ≤ k3) ∧ Aside0 (Kd.R (Kd.int .i64) 2 w' w.heap.size (fun _ => True) v4 x4_4) ∧ Aside0 (Below w.heap.size w w'))
                            case atStart => exact ⟨(x4_3), (0), (by first | rfl | (simp; done) | (simp [*]; done)), H', ⟨Nat.le_refl _⟩, ⟨by (with_reducible repeat (first | apply Kd.R_alloc | apply Kd.R_drewN | apply Kd.R_drew)); exact HO_4.out⟩, ⟨by repeat (first | (with_reducible first | exact HB.out | apply below_alloc | apply pw_below_drewN | apply below_drew1) | exact HB.out)⟩⟩
                            case round =>
                              clear H'
                              try clear c1
                              try clear p1
                              try clear q1
                              try clear hx1
                              try clear c2
                              try clear c2b0
                              try clear p2
                              try clear c3
                              try clear c3b0
                              try clear c4
                              try clear c4b0
                              try clear p5
                              try clear q5
                              try clear hx5
                              try clear p6
                              try clear c7
                              try clear c7b0
                              try clear c8
                              try clear c8b0
                              try clear p9
                              try clear q9
                              try clear hx9
                              try clear c11
                              try clear c11b0
                              try clear c12
                              try clear c12b0
                              try clear c13
                              try clear c13b0
                              try clear c14
                              try clear c14b0
                              try clear c16
                              try clear c16b0
                              try clear c17
                              try clear c17b0
                              try clear p18
                              try clear q18
                              try clear hx18
                              try clear c19
                              try clear c20
                              try clear c20b0
                              try clear p1
                              try clear p18
                              try clear p2
                              try clear p5
                              try clear p6
                              try clear p9
                              try clear q1
                              try clear q18
                              try clear q5
                              try clear q9
                              obtain ⟨x4_4, x10_4, rfl, HA, HK4, HO_4, HB⟩ := hrel
                              cases gk with
                              | zero => exact absurd HA.out (by simp [impl_MapTypes.l2])
                              | succ k4 =>
                                have H := HA.out
                                clear HA
                                simp only [impl_MapTypes.l2] at H
                                by_cases c21 : x10_4 < 8
                                · rw [if_pos c21] at H
                                  have c21b0 : decide (x10_4 < 8) = true := decide_eq_true c21
                                  clear c21
                                  obtain ⟨ji22, hji22⟩ : ∃ j_ : Int, (wrap64 ((wrap64 (x6_1 + 2)) + x9_3)) = j_ := ⟨_, rfl⟩
                                  replace H : (if 0 ≤ (ji22) then (if (ji22) < (a0.size : Int) then (if 0 ≤ (wrap64 (7 - x10_4)) then (if (Go.bits .and .u8 (shr .u8 (bt a0 (ji22)) (wrap64 (7 - x10_4))) 1) = 1 then (if x4_4.length < 17592186044416 then (impl_MapTypes.l2 k4 a0 (x4_4 ++ [wrap64 ((wrap64 ((wrap64 (256 * (wrap64 (bt a0 x6_1)))) + (wrap64 (8 * x9_3)))) + x10_4)]) (wrap64 (bt a0 x6_1)) x6_1 (wrap64 (bt a0 x6_1)) (wrap64 (bt a0 (ji6))) x9_3 (wrap64 (x10_4 + 1))) else (none)) else (impl_MapTypes.l2 k4 a0 x4_4 (wrap64 (bt a0 x6_1)) x6_1 (wrap64 (bt a0 x6_1)) (wrap64 (bt a0 (ji6))) x9_3 (wrap64 (x10_4 + 1)))) else (none)) else (none)) else (none)) = some (r1, r2) := by first | (rw [hji22] at H; exact H) | (simp only [hji22] at H ⊢; exact H)
                                  have hji22w : (IntKind.i64.wrap ((wrap64 (x6_1 + 2)) + x9_3)) = ji22 := (i64_w _).trans hji22
                                  by_cases c23 : 0 ≤ (ji22)
                                  · rw [if_pos c23] at H
                                    have c23b0 : decide (0 ≤ (ji22)) = true := decide_eq_true c23
                                    clear c23
                                    by_cases c24 : (ji22) < (a0.size : Int)
                                    · rw [if_pos c24] at H
                                      have c24b0 : decide ((ji22) < (a0.size : Int)) = true := decide_eq_true c24
                                      clear c24
                                      obtain ⟨ji26, hji26⟩ : ∃ j_ : Int, (wrap64 (7 - x10_4)) = j_ := ⟨_, rfl⟩
                                      replace H : (if 0 ≤ (ji26) then (if (Go.bits .and .u8 (shr .u8 (bt a0 (ji22)) (ji26)) 1) = 1 then (if x4_4.length < 17592186044416 then (impl_MapTypes.l2 k4 a0 (x4_4 ++ [wrap64 ((wrap64 ((wrap64 (256 * (wrap64 (bt a0 x6_1)))) + (wrap64 (8 * x9_3)))) + x10_4)]) (wrap64 (bt a0 x6_1)) x6_1 (wrap64 (bt a0 x6_1)) (wrap64 (bt a0 (ji6))) x9_3 (wrap64 (x10_4 + 1))) else (none)) else (impl_MapTypes.l2 k4 a0 x4_4 (wrap64 (bt a0 x6_1)) x6_1 (wrap64 (bt a0 x6_1)) (wrap64 (bt a0 (ji6))) x9_3 (wrap64 (x10_4 + 1)))) else (none)) = some (r1, r2) := by first | (rw [hji26] at H; exact H) | (simp only [hji26] at H ⊢; exact H)
                                      have hji26w : (IntKind.i64.wrap (7 - x10_4)) = ji26 := (i64_w _).trans hji26
                                      by_cases c27 : 0 ≤ (ji26)
                                      · rw [if_pos c27] at H
                                        have c27b0 := eq_true c27
                                        have c27b1 : decide (0 ≤ (ji26)) = true := decide_eq_true c27
                                        clear c27
                                        obtain ⟨ji28, hji28⟩ : ∃ j_ : Int, (shr .u8 (bt a0 (ji22)) (ji26)) = j_ := ⟨_, rfl⟩
                                        replace H : (if (Go.bits .and .u8 (ji28) 1) = 1 then (if x4_4.length < 17592186044416 then (impl_MapTypes.l2 k4 a0 (x4_4 ++ [wrap64 ((wrap64 ((wrap64 (256 * (wrap64 (bt a0 x6_1)))) + (wrap64 (8 * x9_3)))) + x10_4)]) (wrap64 (bt a0 x6_1)) x6_1 (wrap64 (bt a0 x6_1)) (wrap64 (bt a0 (ji6))) x9_3 (wrap64 (x10_4 + 1))) else (none)) else (impl_MapTypes.l2 k4 a0 x4_4 (wrap64 (bt a0 x6_1)) x6_1 (wrap64 (bt a0 x6_1)) (wrap64 (bt a0 (ji6))) x9_3 (wrap64 (x10_4 + 1)))) = some (r1, r2) := by first | (rw [hji28] at H; exact H) | (simp only [hji28] at H ⊢; exact H)
                                        have hji28_ : ((bt a0 (ji22)) / 2 ^ min (ji26).toNat 8) = ji28 := hji28
                                        have hji28z : (ji26) ≤ 8 → ((bt a0 (ji22)) / 2 ^ (ji26).toNat) = ji28 := shr_small hji28
                                        by_cases c29 : (Go.bits .and .u8 (ji28) 1) = 1
                                        · rw [if_pos c29] at H
                                          have c29b0 : ((Go.bits .and .u8 (ji28) 1) == 1) = true := beq_iff_eq.mpr c29
                                          have c29b1 : ((Go.bits .and .u8 (ji28) 1) != 1) = false := bne_eq_false_iff_eq.mpr c29
                                          clear c29
                                          by_cases c30 : x4_4.length < 17592186044416
                                          · rw [if_pos c30] at H
                                            have LMc30 := Aside0.mk c30
                                            clear c30
                                            obtain ⟨y101, hy101⟩ : ∃ y_ : List Int, y_ = (x4_4 ++ [wrap64 ((wrap64 ((wrap64 (256 * (wrap64 (bt a0 x6_1)))) + (wrap64 (8 * x9_3)))) + x10_4)]) := ⟨_, rfl⟩
                                            replace H : (impl_MapTypes.l2 k4 a0 y101 (wrap64 (bt a0 x6_1)) x6_1 (wrap64 (bt a0 x6_1)) (wrap64 (bt a0 (ji6))) x9_3 (wrap64 (x10_4 + 1))) = some (r1, r2) := by first | (rw [hy101]; with_reducible exact H) | (have H2_ := (Option.bind_some _ _).symm.trans H; rw [hy101]; with_reducible exact H2_) | (have H2_ := (Option.bind_some _ _).symm.trans H; with_reducible exact H2_) | with_reducible exact H | (rw [hy101]; exact H) | exact H
                                            have Ny101 := Aside0.mk hy101
                                            clear hy101
                                            have H' := Aside0.mk H
                                            clear H
                                            have p25 : 0 ≤ ((ji22) : Int) := of_decide_eq_true (by first | (with_reducible assumption) | assumption)
                                            have q25 : (ji22) < (a0.size : Int) := of_decide_eq_true (by first | (with_reducible assumption) | assumption)
                                            have hx25 := bt_at a0 (ji22)
                                            replace p25 := eq_true p25
                                            replace q25 := eq_true q25
                                            go_wp2_with (first | ((with_reducible refine gate_builtin (b := .append) (xs := #[.tmp 79, .tmp 87]) rfl ?_); (try (refine gate_guard (by rfl) ?_; dsimp only)); at_builtin; refine Kd.R_append (Kd.int .i64) (w0 := w) w.heap.size rfl (.tmp 79) (.tmp 87) 57 2 (.int .i64 0) 8 rfl Tryd.underlying57 info2 rfl (by decide) (by omega) u4 x4_4 (wrap64 ((wrap64 ((wrap64 (256 * (wrap64 (bt a0 x6_1)))) + (wrap64 (8 * x9_3)))) + x10_4)) [.int .i64 (wrap64 ((wrap64 ((wrap64 (256 * (wrap64 (bt a0 x6_1)))) + (wrap64 (8 * x9_3)))) + x10_4))] (fun _ => True) (fun _ => False) rfl rfl ?aP (fun _ hk => hk.elim) ?aF ?aO ?aB ?aS ?aL ?_; (case aP => exact rfl); (case aB => exact (by repeat (first | (with_reducible first | exact HB.out | apply below_alloc | apply pw_below_drewN | apply below_drew1) | exact HB.out))); (case aF => exact (fun _ _ => trivial)); (case aO => exact (by (with_reducible repeat (first | apply Kd.R_alloc | apply Kd.R_drewN | apply Kd.R_drew)); exact HO_4.out)); (case aS => exact (below_size (by repeat (first | (with_reducible first | exact HB.out | apply below_alloc | apply pw_below_drewN | apply below_drew1) | exact HB.out)))); (case aL => have := LMc30.out; omega); intro v102 w31 ho hb hg hat; rw [← Ny101.out] at ho; have n0_ := Aside0.mk (hb); have n1_ := Aside0.mk (ho); clear HB; clear HO_4; have HB := n0_; have HO103 := n1_; clear n0_ n1_; clear ho hb hg hat))
                                            repeat (go_quiet (first | ((with_reducible refine gate_builtin (b := .append) (xs := #[.tmp 79, .tmp 87]) rfl ?_); (try (refine gate_guard (by rfl) ?_; dsimp only)); at_builtin; refine Kd.R_append (Kd.int .i64) (w0 := w) w.heap.size rfl (.tmp 79) (.tmp 87) 57 2 (.int .i64 0) 8 rfl Tryd.underlying57 info2 rfl (by decide) (by omega) u4 x4_4 (wrap64 ((wrap64 ((wrap64 (256 * (wrap64 (bt a0 x6_1)))) + (wrap64 (8 * x9_3)))) + x10_4)) [.int .i64 (wrap64 ((wrap64 ((wrap64 (256 * (wrap64 (bt a0 x6_1)))) + (wrap64 (8 * x9_3)))) + x10_4))] (fun _ => True) (fun _ => False) rfl rfl ?aP (fun _ hk => hk.elim) ?aF ?aO ?aB ?aS ?aL ?_; (case aP => exact rfl); (case aB => exact (by repeat (first | (with_reducible first | exact HB.out | apply below_alloc | apply pw_below_drewN | apply below_drew1) | exact HB.out))); (case aF => exact (fun _ _ => trivial)); (case aO => exact (by (with_reducible repeat (first | apply Kd.R_alloc | apply Kd.R_drewN | apply Kd.R_drew)); exact HO_4.out)); (case aS => exact (below_size (by repeat (first | (with_reducible first | exact HB.out | apply below_alloc | apply pw_below_drewN | apply below_drew1) | exact HB.out)))); (case aL => have := LMc30.out; omega); intro v102 w31 ho hb hg hat; rw [← Ny101.out] at ho; have n0_ := Aside0.mk (hb); have n1_ := Aside0.mk (ho); clear HB; clear HO_4; have HB := n0_; have HO103 := n1_; clear n0_ n1_; clear ho hb hg hat)); try go_wp2_with (first | ((with_reducible refine gate_builtin (b := .append) (xs := #[.tmp 79, .tmp 87]) rfl ?_); (try (refine gate_guard (by rfl) ?_; dsimp only)); at_builtin; refine Kd.R_append (Kd.int .i64) (w0 := w) w.heap.size rfl (.tmp 79) (.tmp 87) 57 2 (.int .i64 0) 8 rfl Tryd.underlying57 info2 rfl (by decide) (by omega) u4 x4_4 (wrap64 ((wrap64 ((wrap64 (256 * (wrap64 (bt a0 x6_1)))) + (wrap64 (8 * x9_3)))) + x10_4)) [.int .i64 (wrap64 ((wrap64 ((wrap64 (256 * (wrap64 (bt a0 x6_1)))) + (wrap64 (8 * x9_3)))) + x10_4))] (fun _ => True) (fun _ => False) rfl rfl ?aP (fun _ hk => hk.elim) ?aF ?aO ?aB ?aS ?aL ?_; (case aP => exact rfl); (case aB => exact (by repeat (first | (with_reducible first | exact HB.out | apply below_alloc | apply pw_below_drewN | apply below_drew1) | exact HB.out))); (case aF => exact (fun _ _ => trivial)); (case aO => exact (by (with_reducible repeat (first | apply Kd.R_alloc | apply Kd.R_drewN | apply Kd.R_drew)); exact HO_4.out)); (case aS => exact (below_size (by repeat (first | (with_reducible first | exact HB.out | apply below_alloc | apply pw_below_drewN | apply below_drew1) | exact HB.out)))); (case aL => have := LMc30.out; omega); intro v102 w31 ho hb hg hat; rw [← Ny101.out] at ho; have n0_ := Aside0.mk (hb); have n1_ := Aside0.mk (ho); clear HB; clear HO_4; have HB := n0_; have HO103 := n1_; clear n0_ n1_; clear ho hb hg hat)))
                                            go_roundg k4
                                            case measure => have := HK1.out; have := HJ9.out; have := HK3.out; have := HK4.out; omega
                                            case rel => exact ⟨(y101), (wrap64 (x10_4 + 1)), (by first | rfl | (simp; done) | (simp [*]; done)), H', ⟨by have := HK1.out; have := HJ9.out; have := HK3.out; have := HK4.out; omega⟩, ⟨by (with_reducible repeat (first | apply Kd.R_alloc | apply Kd.R_drewN | apply Kd.R_drew)); exact HO103.out⟩, ⟨by repeat (first | (with_reducible first | exact HB.out | apply below_alloc | apply pw_below_drewN | apply below_drew1) | exact HB.out)⟩⟩
                                          · rw [if_neg c30] at H
                                            exact absurd H (by simp)
                                        · rw [if_neg c29] at H
                                          have c29b0 : ((Go.bits .and .u8 (ji28) 1) == 1) = false := beq_eq_false_iff_ne.mpr c29
                                          have c29b1 : ((Go.bits .and .u8 (ji28) 1) != 1) = true := bne_iff_ne.mpr c29
                                          have H' := Aside0.mk H
                                          clear H
                                          have p25 : 0 ≤ ((ji22) : Int) := of_decide_eq_true (by first | (with_reducible assumption) | assumption)
                                          have q25 : (ji22) < (a0.size : Int) := of_decide_eq_true (by first | (with_reducible assumption) | assumption)
                                          have hx25 := bt_at a0 (ji22)
                                          replace p25 := eq_true p25
                                          replace q25 := eq_true q25
                                          go_wp2
                                          repeat (go_quiet (fail); try go_wp2)
                                          go_roundg k4
                                          case measure => have := HK1.out; have := HJ9.out; have := HK3.out; have := HK4.out; omega
                                          case rel => exact ⟨(x4_4), (wrap64 (x10_4 + 1)), (by first | rfl | (simp; done) | (simp [*]; done)), H', ⟨by have := HK1.out; have := HJ9.out; have := HK3.out; have := HK4.out; omega⟩, ⟨by (with_reducible repeat (first | apply Kd.R_alloc | apply Kd.R_drewN | apply Kd.R_drew)); exact HO_4.out⟩, ⟨by repeat (first | (with_reducible first | exact HB.out | apply below_alloc | apply pw_below_drewN | apply below_drew1) | exact HB.out)⟩⟩
                                      · rw [if_neg c27] at H
                                        exact absurd H (by simp)
                                    · rw [if_neg c24] at H
                                      exact absurd H (by simp)
                                  · rw [if_neg c23] at H
                                    exact absurd H (by simp)
                                · rw [if_neg c21] at H
                                  have c21b0 : decide (x10_4 < 8) = false := decide_eq_false c21
                                  clear c21
                                  have H' := Aside0.mk H
                                  clear H
                                  go_wp2
                                  repeat (go_quiet (fail); try go_wp2)
                                  go_roundg k4
                                  case measure => have := HK1.out; have := HJ9.out; have := HK3.out; have := HK4.out; omega
                                  case rel => exact ⟨(x4_4), (wrap64 (x9_3 + 1)), (by first | rfl | (simp; done) | (simp [*]; done)), H', ⟨by have := HK1.out; have := HJ9.out; have := HK3.out; have := HK4.out; omega⟩, ⟨by (with_reducible repeat (first | apply Kd.R_alloc | apply Kd.R_drewN | apply Kd.R_drew)); exact HO_4.out⟩, ⟨by repeat (first | (with_reducible first | exact HB.out | apply below_alloc | apply pw_below_drewN | apply below_drew1) | exact HB.out)⟩⟩
                          · rw [if_neg c20] at H
                            have c20b0 : decide (x9_3 < (wrap64 (bt a0 (ji6)))) = false := decide_eq_false c20
                            clear c20
                            have H' := Aside0.mk H
                            clear H
                            go_wp2
                            repeat (go_quiet (fail); try go_wp2)
                            go_roundg k3
                            case measure => have := HK1.out; have := HJ9.out; have := HK3.out; omega
                            case rel => exact ⟨(x4_3), ((wrap64 (bt a0 x6_1))), (wrap64 (x6_1 + (wrap64 (2 + (wrap64 (bt a0 (ji6))))))), (by first | rfl | (simp; done) | (simp [*]; done)), (by first | rfl | (simp; done) | (simp only [← hji6] <;> (first | rfl | simp)) | (simp [*]; done)), H', ⟨by have := HK1.out; have := HJ9.out; have := HK3.out; omega⟩, ⟨by (with_reducible repeat (first | apply Kd.R_alloc | apply Kd.R_drewN | apply Kd.R_drew)); exact HO_4.out⟩, ⟨by repeat (first | (with_reducible first | exact HB.out | apply below_alloc | apply pw_below_drewN | apply below_drew1) | exact HB.out)⟩⟩
              · rw [if_neg c8] at H
                exact absurd H (by simp)
            · rw [if_neg c7] at H
              exact absurd H (by simp)
          · rw [if_neg c4] at H
            exact absurd H (by simp)
      · rw [if_neg c2] at H
        have c2b0 : decide (x6_1 < (a0.size : Int)) = false := decide_eq_false c2
        clear c2
        simp only [Option.some.injEq, Prod.mk.injEq] at H
        obtain ⟨rfl, rfl⟩ := H
        go_wp2
        repeat (go_quiet (fail); try go_wp2)
        go_ret2
        exact ⟨_, by first | rfl | (simp [errW_none, errW_some] <;> rfl) | (simp [*, errW_none, errW_some] <;> rfl), by (with_reducible repeat (first | apply Kd.R_alloc | apply Kd.R_drewN | apply Kd.R_drew)); exact HO_4.out, by repeat (first | (with_reducible first | exact HB.out | apply below_alloc | apply pw_below_drewN | apply below_drew1) | exact HB.out)⟩

end Go.Proofs.YtbaajohjglhpfaaDoor.F
