-- Written by a program of this session (wip/myprint.py, over the kit's print). Not trusted: Lean checks it.
import Derived.Test.YtpbmnokmpihnjaaFx0
namespace Go.Proofs.Ytpbmnokmpihnjaa.F
open Go Go.Shelf Go.RowKit Go.Proofs.YtpbmnokmpihnjaaW.PrintWords Go.Proofs.YtpbmnokmpihnjaaW.PrintLast Go.Proofs.YtpbmnokmpihnjaaW.PrintMore
attribute [local go_sem] max2_int min2_int max_two min_two max_three min_three max_four min_four   -- for this text's walks alone
set_option linter.unusedVariables false
set_option linter.unusedSimpArgs false

/-! ### impl_escaped: function 43 -/
mutual
def impl_escaped.j0 : Nat → ByteArray → Int → Int → Bool → Option (Int × Int × Bool)
  | 0, _, _, _, _ => none
  | k + 1, x0, x1, x7, x24 => if x24 = true then (some (x7, wrap64 (x1 + 2), true)) else (if (wrap64 (x1 + 3)) ≥ (x0.size : Int) then (some (0, 0, false)) else (impl_escaped.l0 k x0 x1 0 (wrap64 (x1 + 1))))
def impl_escaped.l0 : Nat → ByteArray → Int → Int → Int → Option (Int × Int × Bool)
  | 0, _, _, _, _ => none
  | k + 1, x0, x1, x8, x9 => if x9 ≤ (wrap64 (x1 + 3)) then (if 0 ≤ x9 then (if x9 < (x0.size : Int) then (if (bt x0 x9) < 48 then (some (0, 0, false)) else (if (bt x0 x9) > 57 then (some (0, 0, false)) else (impl_escaped.l0 k x0 x1 (wrap64 ((wrap64 (x8 * 10)) + (((bt x0 x9) - 48) % 256))) (wrap64 (x9 + 1))))) else (none)) else (none)) else (some ((x8) % 256, wrap64 (x1 + 4), decide (x8 ≤ 255)))
end
def impl_escaped.f (k : Nat) (a0 : ByteArray) (a1 : Int) : Option (Int × Int × Bool) := if (wrap64 (a1 + 1)) ≥ (a0.size : Int) then (some (0, 0, false)) else (if 0 ≤ (wrap64 (a1 + 1)) then (if (wrap64 (a1 + 1)) < (a0.size : Int) then (if (bt a0 (wrap64 (a1 + 1))) < 48 then (impl_escaped.j0 k a0 a1 (bt a0 (wrap64 (a1 + 1))) true) else (impl_escaped.j0 k a0 a1 (bt a0 (wrap64 (a1 + 1))) (decide ((bt a0 (wrap64 (a1 + 1))) > 57)))) else (none)) else (none))
theorem impl_escaped.mono_l : ∀ k, (∀ y0 y1 y2 y3, LeO (impl_escaped.j0 k y0 y1 y2 y3) (impl_escaped.j0 (k + 1) y0 y1 y2 y3)) ∧ (∀ y0 y1 y2 y3, LeO (impl_escaped.l0 k y0 y1 y2 y3) (impl_escaped.l0 (k + 1) y0 y1 y2 y3))
  | 0 => ⟨fun _ _ _ _ r h => by simp [impl_escaped.j0] at h, fun _ _ _ _ r h => by simp [impl_escaped.l0] at h⟩
  | k + 1 => by
    obtain ⟨ih0, ih1⟩ := impl_escaped.mono_l k
    refine ⟨?_, ?_⟩
    · intro y0 y1 y2 y3
      unfold impl_escaped.j0
      repeat' first
      | (with_reducible exact ih0 _ _ _ _)
      | (with_reducible exact ih1 _ _ _ _)
      | (with_reducible exact LeO.refl _)
      | (with_reducible exact LeO.none _)
      | (with_reducible refine LeO.ite ?_ ?_)
      | (with_reducible refine LeO.bind ?_ (fun _ => ?_))
      | exact ih0 _ _ _ _
      | exact ih1 _ _ _ _
      | exact LeO.none _
      | refine LeO.ite ?_ ?_
      | refine LeO.bind ?_ (fun _ => ?_)
    · intro y0 y1 y2 y3
      unfold impl_escaped.l0
      repeat' first
      | (with_reducible exact ih0 _ _ _ _)
      | (with_reducible exact ih1 _ _ _ _)
      | (with_reducible exact LeO.refl _)
      | (with_reducible exact LeO.none _)
      | (with_reducible refine LeO.ite ?_ ?_)
      | (with_reducible refine LeO.bind ?_ (fun _ => ?_))
      | exact ih0 _ _ _ _
      | exact ih1 _ _ _ _
      | exact LeO.none _
      | refine LeO.ite ?_ ?_
      | refine LeO.bind ?_ (fun _ => ?_)
theorem impl_escaped.mono : ∀ a0 a1 k, LeO (impl_escaped.f k a0 a1) (impl_escaped.f (k + 1) a0 a1) := by
  intro a0 a1 k
  obtain ⟨ih0, ih1⟩ := impl_escaped.mono_l k
  unfold impl_escaped.f
  repeat' first
      | (with_reducible exact ih0 _ _ _ _)
      | (with_reducible exact ih1 _ _ _ _)
      | (with_reducible exact LeO.refl _)
      | (with_reducible exact LeO.none _)
      | (with_reducible refine LeO.ite ?_ ?_)
      | (with_reducible refine LeO.bind ?_ (fun _ => ?_))
      | exact ih0 _ _ _ _
      | exact ih1 _ _ _ _
      | exact LeO.none _
      | refine LeO.ite ?_ ?_
      | refine LeO.bind ?_ (fun _ => ?_)
set_option maxHeartbeats 8000000 in
set_option maxRecDepth 100000 in
theorem impl_escaped.calls (k : Nat) (a0 : ByteArray) (a1 : Int) (r1 : Int) (r2 : Int) (r3 : Bool) (w : World) (h : impl_escaped.f k a0 a1 = some (r1, r2, r3)) :
    Calls Try.prog 43 #[.string a0, .int .i64 a1] w fun e w' => e = .returned (.tuple #[.int .u8 r1, .int .i64 r2, .bool r3]) ∧ Drawn0 w w' := by
  have H : (if (wrap64 (a1 + 1)) ≥ (a0.size : Int) then (some (0, 0, false)) else (if 0 ≤ (wrap64 (a1 + 1)) then (if (wrap64 (a1 + 1)) < (a0.size : Int) then (if (bt a0 (wrap64 (a1 + 1))) < 48 then (impl_escaped.j0 k a0 a1 (bt a0 (wrap64 (a1 + 1))) true) else (impl_escaped.j0 k a0 a1 (bt a0 (wrap64 (a1 + 1))) (decide ((bt a0 (wrap64 (a1 + 1))) > 57)))) else (none)) else (none))) = some (r1, r2, r3) := h
  clear h
  by_cases c3 : (wrap64 (a1 + 1)) ≥ (a0.size : Int)
  · rw [if_pos c3] at H
    have c3b0 : decide ((a0.size : Int) ≤ (wrap64 (a1 + 1))) = true := decide_eq_true c3
    clear c3
    simp only [Option.some.injEq, Prod.mk.injEq] at H
    obtain ⟨rfl, rfl, rfl⟩ := H
    go_enter Try.func43, Try.ntmps43
    go_wp2
    go_ret3
    exact ⟨by first | rfl | (simp; done) | (simp [*]; done), by repeat (first | exact Drawn0.refl _ | apply Drawn0.step)⟩
  · rw [if_neg c3] at H
    have c3b0 : decide ((a0.size : Int) ≤ (wrap64 (a1 + 1))) = false := decide_eq_false c3
    clear c3
    obtain ⟨ji4, hji4⟩ : ∃ j_ : Int, (wrap64 (a1 + 1)) = j_ := ⟨_, rfl⟩
    replace H : (if 0 ≤ (ji4) then (if (ji4) < (a0.size : Int) then (if (bt a0 (ji4)) < 48 then (impl_escaped.j0 k a0 a1 (bt a0 (ji4)) true) else (impl_escaped.j0 k a0 a1 (bt a0 (ji4)) (decide ((bt a0 (ji4)) > 57)))) else (none)) else (none)) = some (r1, r2, r3) := by first | (rw [hji4] at H; exact H) | (simp only [hji4] at H ⊢; exact H)
    (try rw [hji4] at c3b0)
    have hji4w : (IntKind.i64.wrap (a1 + 1)) = ji4 := (i64_w _).trans hji4
    by_cases c5 : 0 ≤ (ji4)
    · rw [if_pos c5] at H
      have c5b0 : decide (0 ≤ (ji4)) = true := decide_eq_true c5
      clear c5
      by_cases c6 : (ji4) < (a0.size : Int)
      · rw [if_pos c6] at H
        have c6b0 : decide ((ji4) < (a0.size : Int)) = true := decide_eq_true c6
        clear c6
        have HC8 := Aside0.mk H
        clear H
        have p7 : 0 ≤ ((ji4) : Int) := of_decide_eq_true (by first | (with_reducible assumption) | assumption)
        have q7 : (ji4) < (a0.size : Int) := of_decide_eq_true (by first | (with_reducible assumption) | assumption)
        have hx7 := bt_at a0 (ji4)
        replace p7 := eq_true p7
        replace q7 := eq_true q7
        go_enter Try.func43, Try.ntmps43
        go_upto_region 4 with (fail)
        go_cut [24] (fun v24 wc => ∃ (kq : Nat) (x24_7 : Bool), v24 = .bool x24_7 ∧ Aside0 (impl_escaped.j0 kq a0 a1 (bt a0 (ji4)) x24_7 = some (r1, r2, r3)) ∧ Aside0 (kq ≤ k) ∧ Drawn0 w wc)
        case first =>
          have H := HC8.out
          clear HC8
          by_cases c9 : (bt a0 (ji4)) < 48
          · rw [if_pos c9] at H
            have c9b0 : decide ((bt a0 (ji4)) < 48) = true := decide_eq_true c9
            clear c9
            (first | rw [c9b0] | (simp only [i64_w, i32_w]; rw [c9b0]) | skip)
            have H' := Aside0.mk H
            clear H
            go_wp2
            go_meet
            case rel => exact ⟨_, (true), (by first | rfl | (simp; done) | (simp [*]; done)), H', ⟨by first | omega | exact Nat.le_refl _⟩, by repeat (first | exact Drawn0.refl _ | apply Drawn0.step)⟩
          · rw [if_neg c9] at H
            have c9b0 : decide ((bt a0 (ji4)) < 48) = false := decide_eq_false c9
            clear c9
            (first | rw [c9b0] | (simp only [i64_w, i32_w]; rw [c9b0]) | skip)
            have H' := Aside0.mk H
            clear H
            go_wp2
            go_meet
            case rel => exact ⟨_, (decide ((bt a0 (ji4)) > 57)), (by first | rfl | (simp; done) | (simp only [← hji4] <;> (first | rfl | simp)) | (simp [*]; done)), H', ⟨by first | omega | exact Nat.le_refl _⟩, by repeat (first | exact Drawn0.refl _ | apply Drawn0.step)⟩
        case rest =>
          clear HC8
          try clear p2
          try clear c3
          try clear c3b0
          try clear c4
          try clear c5
          try clear c5b0
          try clear c6
          try clear c6b0
          try clear p6
          try clear p7
          try clear q7
          try clear hx7
          try clear c9
          try clear c9b0
          try clear p7
          try clear q7
          obtain ⟨kq, x24_7, rfl, HA, HJ7, ⟨mc7, rfl⟩⟩ := hcut
          cases kq with
          | zero => exact absurd HA.out (by simp [impl_escaped.j0])
          | succ kj7 =>
            have H := HA.out
            clear HA
            simp only [impl_escaped.j0] at H
            by_cases c10 : x24_7 = true
            · subst c10
              have H1 : (some ((bt a0 (ji4)), wrap64 (a1 + 2), true)) = some (r1, r2, r3) := by rw [if_pos rfl] at H; exact H
              clear H
              have H := H1
              clear H1
              simp only [Option.some.injEq, Prod.mk.injEq] at H
              obtain ⟨rfl, rfl, rfl⟩ := H
              go_wp2
              go_ret3
              exact ⟨by first | rfl | (simp; done) | (simp only [← hji4] <;> (first | rfl | simp)) | (simp [*]; done), by repeat (first | exact Drawn0.refl _ | apply Drawn0.step)⟩
            · replace c10 := Bool.eq_false_iff.mpr c10
              subst c10
              have H1 : (if (wrap64 (a1 + 3)) ≥ (a0.size : Int) then (some (0, 0, false)) else (impl_escaped.l0 kj7 a0 a1 0 (wrap64 (a1 + 1)))) = some (r1, r2, r3) := by rw [if_neg (show ¬ (false = true) by decide)] at H; exact H
              clear H
              have H := H1
              clear H1
              by_cases c11 : (wrap64 (a1 + 3)) ≥ (a0.size : Int)
              · rw [if_pos c11] at H
                have c11b0 : decide ((a0.size : Int) ≤ (wrap64 (a1 + 3))) = true := decide_eq_true c11
                clear c11
                simp only [Option.some.injEq, Prod.mk.injEq] at H
                obtain ⟨rfl, rfl, rfl⟩ := H
                go_wp2
                go_ret3
                exact ⟨by first | rfl | (simp; done) | (simp only [← hji4] <;> (first | rfl | simp)) | (simp [*]; done), by repeat (first | exact Drawn0.refl _ | apply Drawn0.step)⟩
              · rw [if_neg c11] at H
                have c11b0 : decide ((a0.size : Int) ≤ (wrap64 (a1 + 3))) = false := decide_eq_false c11
                clear c11
                have H' := Aside0.mk H
                clear H
                go_wp2
                go_loopg [8, 9] kj7 (fun kq v8 v9 w' => ∃ (x8_2 : Int) (x9_2 : Int), v8 = .int .i64 x8_2 ∧ v9 = .int .i64 x9_2 ∧ Aside0 (impl_escaped.l0 kq a0 a1 x8_2 x9_2 = some (r1, r2, r3)) ∧ Aside0 (kq ≤ kj7) ∧ Drawn0 w w')
                case atStart => exact ⟨(0), (wrap64 (a1 + 1)), (by first | rfl | (simp; done) | (simp [*]; done)), (by first | rfl | (simp; done) | (simp [*]; done)), H', ⟨Nat.le_refl _⟩, by repeat (first | exact Drawn0.refl _ | apply Drawn0.step)⟩
                case round =>
                  clear H'
                  try clear c1
                  try clear p2
                  try clear c3
                  try clear c3b0
                  try clear c4
                  try clear c5
                  try clear c5b0
                  try clear c6
                  try clear c6b0
                  try clear p6
                  try clear c7
                  try clear p7
                  try clear q7
                  try clear hx7
                  try clear c9
                  try clear c9b0
                  try clear c10
                  try clear c11
                  try clear c11b0
                  try clear p2
                  try clear p6
                  try clear p7
                  try clear q7
                  obtain ⟨x8_2, x9_2, rfl, rfl, HA, HK2, ⟨m2, rfl⟩⟩ := hrel
                  cases gk with
                  | zero => exact absurd HA.out (by simp [impl_escaped.l0])
                  | succ k2 =>
                    have H := HA.out
                    clear HA
                    simp only [impl_escaped.l0] at H
                    by_cases c12 : x9_2 ≤ (wrap64 (a1 + 3))
                    · rw [if_pos c12] at H
                      have c12b0 : decide (x9_2 ≤ (wrap64 (a1 + 3))) = true := decide_eq_true c12
                      clear c12
                      by_cases c13 : 0 ≤ x9_2
                      · rw [if_pos c13] at H
                        have c13b0 : decide (0 ≤ x9_2) = true := decide_eq_true c13
                        clear c13
                        by_cases c14 : x9_2 < (a0.size : Int)
                        · rw [if_pos c14] at H
                          have c14b0 : decide (x9_2 < (a0.size : Int)) = true := decide_eq_true c14
                          clear c14
                          by_cases c16 : (bt a0 x9_2) < 48
                          · rw [if_pos c16] at H
                            have c16b0 : decide ((bt a0 x9_2) < 48) = true := decide_eq_true c16
                            clear c16
                            simp only [Option.some.injEq, Prod.mk.injEq] at H
                            obtain ⟨rfl, rfl, rfl⟩ := H
                            have p15 : 0 ≤ (x9_2 : Int) := of_decide_eq_true (by first | (with_reducible assumption) | assumption)
                            have q15 : x9_2 < (a0.size : Int) := of_decide_eq_true (by first | (with_reducible assumption) | assumption)
                            have hx15 := bt_at a0 x9_2
                            replace p15 := eq_true p15
                            replace q15 := eq_true q15
                            go_wp2
                            go_ret3
                            exact ⟨by first | rfl | (simp; done) | (simp only [← hji4] <;> (first | rfl | simp)) | (simp [*]; done), by repeat (first | exact Drawn0.refl _ | apply Drawn0.step)⟩
                          · rw [if_neg c16] at H
                            have c16b0 : decide ((bt a0 x9_2) < 48) = false := decide_eq_false c16
                            clear c16
                            by_cases c18 : (bt a0 x9_2) > 57
                            · rw [if_pos c18] at H
                              have c18b0 : decide (57 < (bt a0 x9_2)) = true := decide_eq_true c18
                              clear c18
                              simp only [Option.some.injEq, Prod.mk.injEq] at H
                              obtain ⟨rfl, rfl, rfl⟩ := H
                              have p15 : 0 ≤ (x9_2 : Int) := of_decide_eq_true (by first | (with_reducible assumption) | assumption)
                              have q15 : x9_2 < (a0.size : Int) := of_decide_eq_true (by first | (with_reducible assumption) | assumption)
                              have hx15 := bt_at a0 x9_2
                              replace p15 := eq_true p15
                              replace q15 := eq_true q15
                              have p17 : 0 ≤ (x9_2 : Int) := of_decide_eq_true (by first | (with_reducible assumption) | assumption)
                              have q17 : x9_2 < (a0.size : Int) := of_decide_eq_true (by first | (with_reducible assumption) | assumption)
                              have hx17 := bt_at a0 x9_2
                              replace p17 := eq_true p17
                              replace q17 := eq_true q17
                              go_wp2
                              go_ret3
                              exact ⟨by first | rfl | (simp; done) | (simp only [← hji4] <;> (first | rfl | simp)) | (simp [*]; done), by repeat (first | exact Drawn0.refl _ | apply Drawn0.step)⟩
                            · rw [if_neg c18] at H
                              have c18b0 : decide (57 < (bt a0 x9_2)) = false := decide_eq_false c18
                              clear c18
                              have H' := Aside0.mk H
                              clear H
                              have p15 : 0 ≤ (x9_2 : Int) := of_decide_eq_true (by first | (with_reducible assumption) | assumption)
                              have q15 : x9_2 < (a0.size : Int) := of_decide_eq_true (by first | (with_reducible assumption) | assumption)
                              have hx15 := bt_at a0 x9_2
                              replace p15 := eq_true p15
                              replace q15 := eq_true q15
                              have p17 : 0 ≤ (x9_2 : Int) := of_decide_eq_true (by first | (with_reducible assumption) | assumption)
                              have q17 : x9_2 < (a0.size : Int) := of_decide_eq_true (by first | (with_reducible assumption) | assumption)
                              have hx17 := bt_at a0 x9_2
                              replace p17 := eq_true p17
                              replace q17 := eq_true q17
                              have p19 : 0 ≤ (x9_2 : Int) := of_decide_eq_true (by first | (with_reducible assumption) | assumption)
                              have q19 : x9_2 < (a0.size : Int) := of_decide_eq_true (by first | (with_reducible assumption) | assumption)
                              have hx19 := bt_at a0 x9_2
                              replace p19 := eq_true p19
                              replace q19 := eq_true q19
                              go_wp2
                              go_roundg k2
                              case measure => have := HJ7.out; have := HK2.out; omega
                              case rel => exact ⟨(wrap64 ((wrap64 (x8_2 * 10)) + (((bt a0 x9_2) - 48) % 256))), (wrap64 (x9_2 + 1)), (by first | rfl | (simp; done) | (simp [*]; done)), (by first | rfl | (simp; done) | (simp [*]; done)), H', ⟨by have := HJ7.out; have := HK2.out; omega⟩, by repeat (first | exact Drawn0.refl _ | apply Drawn0.step)⟩
                        · rw [if_neg c14] at H
                          exact absurd H (by simp)
                      · rw [if_neg c13] at H
                        exact absurd H (by simp)
                    · rw [if_neg c12] at H
                      have c12b0 : decide (x9_2 ≤ (wrap64 (a1 + 3))) = false := decide_eq_false c12
                      clear c12
                      simp only [Option.some.injEq, Prod.mk.injEq] at H
                      obtain ⟨rfl, rfl, rfl⟩ := H
                      go_wp2
                      go_ret3
                      exact ⟨by first | rfl | (simp; done) | (simp only [← hji4] <;> (first | rfl | simp)) | (simp [*]; done), by repeat (first | exact Drawn0.refl _ | apply Drawn0.step)⟩
      · rw [if_neg c6] at H
        exact absurd H (by simp)
    · rw [if_neg c5] at H
      exact absurd H (by simp)

end Go.Proofs.Ytpbmnokmpihnjaa.F
