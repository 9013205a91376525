-- Written by a program of this session (wip/myprint.py, over the kit's print). Not trusted: Lean checks it.
import Derived.Test.YtpbmnokmpihnjaaFx0
import Derived.Test.YtpbmnokmpihnjaaFx1030
import Derived.Test.YtpbmnokmpihnjaaFx1031
import Derived.Test.YtpbmnokmpihnjaaFx1032
namespace Go.Proofs.Ytpbmnokmpihnjaa.F
open Go Go.Shelf Go.RowKit Go.Proofs.YtpbmnokmpihnjaaW.PrintWords Go.Proofs.YtpbmnokmpihnjaaW.PrintLast Go.Proofs.YtpbmnokmpihnjaaW.PrintMore
attribute [local go_sem] max2_int min2_int max_two min_two max_three min_three max_four min_four   -- for this text's walks alone
set_option linter.unusedVariables false
set_option linter.unusedSimpArgs false

/-! ### spec_ReadTTL: function 10 -/
mutual
def spec_ReadTTL.j0 : Nat → ByteArray → Int → Bool → Option (Int × Int)
  | 0, _, _, _ => none
  | k + 1, x0, x4, x23 => if x23 = true then (some (x4, 0)) else (spec_ReadTTL.l0 k x0 0 0 0)
def spec_ReadTTL.l0 : Nat → ByteArray → Int → Int → Int → Option (Int × Int)
  | 0, _, _, _, _ => none
  | k + 1, x0, x6, x7, x8 => if x8 < (x0.size : Int) then (if 0 ≤ x8 then ((spec_l01Digit.f (bt x0 x8)).bind fun t103 => (if t103 = true then (spec_ReadTTL.l0 k x0 x6 x7 (wrap64 (x8 + 1))) else (if 0 ≤ x7 then (if x7 ≤ x8 then (if x8 ≤ (x0.size : Int) then ((spec_l03Number.f k (x0.extract (x7 : Int).toNat (x8 : Int).toNat) 10).bind fun bt104 => (if bt104.2 = true then ((spec_l03Unit.f k (bt x0 x8)).bind fun t106 => (if t106 = 0 then (some (0, 18)) else ((spec_l03Unit.f k (bt x0 x8)).bind fun t107 => (spec_ReadTTL.l0 k x0 (wrap64 (x6 + (wrap64 (bt104.1 * t107)))) (wrap64 (x8 + 1)) (wrap64 (x8 + 1)))))) else (some (0, 18)))) else (none)) else (none)) else (none)))) else (none)) else (if x7 = (x0.size : Int) then (if x7 = 0 then (some (0, 18)) else (if x6 > 2147483647 then (some (0, 18)) else (some (x6, 0)))) else (some (0, 18)))
end
def spec_ReadTTL.f (k : Nat) (a0 : ByteArray) : Option (Int × Int) := if (a0.size : Int) > 60 then (some (0, 18)) else ((spec_l03Number.f k a0 10).bind fun bt101 => (if bt101.2 = true then (spec_ReadTTL.j0 k a0 bt101.1 (decide (bt101.1 ≤ 2147483647))) else (spec_ReadTTL.j0 k a0 bt101.1 false)))
theorem spec_ReadTTL.mono_l : ∀ k, (∀ y0 y1 y2, LeO (spec_ReadTTL.j0 k y0 y1 y2) (spec_ReadTTL.j0 (k + 1) y0 y1 y2)) ∧ (∀ y0 y1 y2 y3, LeO (spec_ReadTTL.l0 k y0 y1 y2 y3) (spec_ReadTTL.l0 (k + 1) y0 y1 y2 y3))
  | 0 => ⟨fun _ _ _ r h => by simp [spec_ReadTTL.j0] at h, fun _ _ _ _ r h => by simp [spec_ReadTTL.l0] at h⟩
  | k + 1 => by
    obtain ⟨ih0, ih1⟩ := spec_ReadTTL.mono_l k
    refine ⟨?_, ?_⟩
    · intro y0 y1 y2
      unfold spec_ReadTTL.j0
      repeat' first
      | (with_reducible exact ih0 _ _ _)
      | (with_reducible exact ih1 _ _ _ _)
      | (with_reducible exact spec_l03Number.mono _ _ _)
      | (with_reducible exact spec_l03Unit.mono _ _)
      | (with_reducible exact LeO.refl _)
      | (with_reducible exact LeO.none _)
      | (with_reducible refine LeO.ite ?_ ?_)
      | (with_reducible refine LeO.bind ?_ (fun _ => ?_))
      | exact ih0 _ _ _
      | exact ih1 _ _ _ _
      | exact spec_l03Number.mono _ _ _
      | exact spec_l03Unit.mono _ _
      | exact LeO.none _
      | refine LeO.ite ?_ ?_
      | refine LeO.bind ?_ (fun _ => ?_)
    · intro y0 y1 y2 y3
      unfold spec_ReadTTL.l0
      repeat' first
      | (with_reducible exact ih0 _ _ _)
      | (with_reducible exact ih1 _ _ _ _)
      | (with_reducible exact spec_l03Number.mono _ _ _)
      | (with_reducible exact spec_l03Unit.mono _ _)
      | (with_reducible exact LeO.refl _)
      | (with_reducible exact LeO.none _)
      | (with_reducible refine LeO.ite ?_ ?_)
      | (with_reducible refine LeO.bind ?_ (fun _ => ?_))
      | exact ih0 _ _ _
      | exact ih1 _ _ _ _
      | exact spec_l03Number.mono _ _ _
      | exact spec_l03Unit.mono _ _
      | exact LeO.none _
      | refine LeO.ite ?_ ?_
      | refine LeO.bind ?_ (fun _ => ?_)
theorem spec_ReadTTL.mono : ∀ a0 k, LeO (spec_ReadTTL.f k a0) (spec_ReadTTL.f (k + 1) a0) := by
  intro a0 k
  obtain ⟨ih0, ih1⟩ := spec_ReadTTL.mono_l k
  unfold spec_ReadTTL.f
  repeat' first
      | (with_reducible exact ih0 _ _ _)
      | (with_reducible exact ih1 _ _ _ _)
      | (with_reducible exact spec_l03Number.mono _ _ _)
      | (with_reducible exact spec_l03Unit.mono _ _)
      | (with_reducible exact LeO.refl _)
      | (with_reducible exact LeO.none _)
      | (with_reducible refine LeO.ite ?_ ?_)
      | (with_reducible refine LeO.bind ?_ (fun _ => ?_))
      | exact ih0 _ _ _
      | exact ih1 _ _ _ _
      | exact spec_l03Number.mono _ _ _
      | exact spec_l03Unit.mono _ _
      | exact LeO.none _
      | refine LeO.ite ?_ ?_
      | refine LeO.bind ?_ (fun _ => ?_)
set_option maxHeartbeats 8000000 in
set_option maxRecDepth 100000 in
theorem spec_ReadTTL.calls (k : Nat) (a0 : ByteArray) (r1 : Int) (r2 : Int) (w : World) (h : spec_ReadTTL.f k a0 = some (r1, r2)) :
    Calls Try.prog 10 #[.string a0] w fun e w' => e = .returned (.tuple #[.int .i64 r1, .int .i64 r2]) ∧ Drawn0 w w' := by
  have H : (if (a0.size : Int) > 60 then (some (0, 18)) else ((spec_l03Number.f k a0 10).bind fun bt101 => (if bt101.2 = true then (spec_ReadTTL.j0 k a0 bt101.1 (decide (bt101.1 ≤ 2147483647))) else (spec_ReadTTL.j0 k a0 bt101.1 false)))) = some (r1, r2) := h
  clear h
  by_cases c2 : (a0.size : Int) > 60
  · rw [if_pos c2] at H
    have c2b0 : decide (60 < (a0.size : Int)) = true := decide_eq_true c2
    have c2b1 : decide (60 < a0.size) = true := decide_eq_true (by omega)
    clear c2
    simp only [Option.some.injEq, Prod.mk.injEq] at H
    obtain ⟨rfl, rfl⟩ := H
    go_enter Try.func10, Try.ntmps10
    go_wp2
    go_ret2
    exact ⟨by first | rfl | (simp; done) | (simp [*]; done), by repeat (first | exact Drawn0.refl _ | apply Drawn0.step)⟩
  · rw [if_neg c2] at H
    have c2b0 : decide (60 < (a0.size : Int)) = false := decide_eq_false c2
    have c2b1 : decide (60 < a0.size) = false := decide_eq_false (by omega)
    clear c2
    replace H := Option.bind_eq_some_iff.mp H
    obtain ⟨⟨t101, t102⟩, A30, H⟩ := H
    replace H : (if t102 = true then (spec_ReadTTL.j0 k a0 t101 (decide (t101 ≤ 2147483647))) else (spec_ReadTTL.j0 k a0 t101 false)) = some (r1, r2) := H
    have A3 := Aside0.mk A30
    clear A30
    have HC4 := Aside0.mk H
    clear H
    go_enter Try.func10, Try.ntmps10
    go_upto_region 4 with (first | ((with_reducible refine gate_callee (f := 30) rfl ?_); refine goesL_ (some 16) rfl rfl Try.func30 (by kernel_rfl) rfl #[.string a0, .int .i64 10] rfl (by (try simp only [List.map_toArray, List.map_cons, List.map_nil]); first | done | rfl | (simp only [List.length_drop, List.length_take]; rfl)) ?_; (with_reducible refine (spec_l03Number.calls k a0 10 t101 t102 _ A3.out).mono ?_); rintro e w' ⟨rfl, ⟨nd, rfl⟩⟩; refine ⟨_, rfl, ?_⟩))
    (try simp only [Act.put, List.setIfInBounds_toArray, List.set_cons_zero, List.set_cons_succ])
    go_cut [23] (fun v23 wc => ∃ (kq : Nat) (x23_3 : Bool), v23 = .bool x23_3 ∧ Aside0 (spec_ReadTTL.j0 kq a0 t101 x23_3 = some (r1, r2)) ∧ Aside0 (kq ≤ k) ∧ Drawn0 w wc)
    case first =>
      have H := HC4.out
      clear HC4
      by_cases c5 : t102 = true
      · subst c5
        have H1 : (spec_ReadTTL.j0 k a0 t101 (decide (t101 ≤ 2147483647))) = some (r1, r2) := by rw [if_pos rfl] at H; exact H
        clear H
        have H := H1
        clear H1
        have H' := Aside0.mk H
        clear H
        go_wp2
        go_meet
        case rel => exact ⟨_, (decide (t101 ≤ 2147483647)), (by first | rfl | (simp; done) | (simp [*]; done)), H', ⟨by first | omega | exact Nat.le_refl _⟩, by repeat (first | exact Drawn0.refl _ | apply Drawn0.step)⟩
      · replace c5 := Bool.eq_false_iff.mpr c5
        subst c5
        have H1 : (spec_ReadTTL.j0 k a0 t101 false) = some (r1, r2) := by rw [if_neg (show ¬ (false = true) by decide)] at H; exact H
        clear H
        have H := H1
        clear H1
        have H' := Aside0.mk H
        clear H
        go_wp2
        go_meet
        case rel => exact ⟨_, (false), (by first | rfl | (simp; done) | (simp [*]; done)), H', ⟨by first | omega | exact Nat.le_refl _⟩, by repeat (first | exact Drawn0.refl _ | apply Drawn0.step)⟩
    case rest =>
      clear HC4
      try clear c1
      try clear c2
      try clear c2b0
      try clear c2b1
      try clear p2
      try clear c3
      try clear c5
      obtain ⟨kq, x23_3, rfl, HA, HJ3, ⟨mc3, rfl⟩⟩ := hcut
      cases kq with
      | zero => exact absurd HA.out (by simp [spec_ReadTTL.j0])
      | succ kj3 =>
        have H := HA.out
        clear HA
        simp only [spec_ReadTTL.j0] at H
        by_cases c6 : x23_3 = true
        · subst c6
          have H1 : (some (t101, 0)) = some (r1, r2) := by rw [if_pos rfl] at H; exact H
          clear H
          have H := H1
          clear H1
          simp only [Option.some.injEq, Prod.mk.injEq] at H
          obtain ⟨rfl, rfl⟩ := H
          go_wp2
          go_ret2
          exact ⟨by first | rfl | (simp; done) | (simp [*]; done), by repeat (first | exact Drawn0.refl _ | apply Drawn0.step)⟩
        · replace c6 := Bool.eq_false_iff.mpr c6
          subst c6
          have H1 : (spec_ReadTTL.l0 kj3 a0 0 0 0) = some (r1, r2) := by rw [if_neg (show ¬ (false = true) by decide)] at H; exact H
          clear H
          have H := H1
          clear H1
          have H' := Aside0.mk H
          clear H
          go_wp2
          go_loopg [6, 7, 8] kj3 (fun kq v6 v7 v8 w' => ∃ (x6_2 : Int) (x7_2 : Int) (x8_2 : Int), v6 = .int .i64 x6_2 ∧ v7 = .int .i64 x7_2 ∧ v8 = .int .i64 x8_2 ∧ Aside0 (spec_ReadTTL.l0 kq a0 x6_2 x7_2 x8_2 = some (r1, r2)) ∧ Aside0 (kq ≤ kj3) ∧ Drawn0 w w')
          case atStart => exact ⟨(0), (0), (0), (by first | rfl | (simp; done) | (simp [*]; done)), (by first | rfl | (simp; done) | (simp [*]; done)), (by first | rfl | (simp; done) | (simp [*]; done)), H', ⟨Nat.le_refl _⟩, by repeat (first | exact Drawn0.refl _ | apply Drawn0.step)⟩
          case round =>
            clear H'
            try clear c1
            try clear c2
            try clear c2b0
            try clear c2b1
            try clear p2
            try clear c3
            try clear c5
            try clear c6
            try clear p2
            obtain ⟨x6_2, x7_2, x8_2, rfl, rfl, rfl, HA, HK2, ⟨m2, rfl⟩⟩ := hrel
            cases gk with
            | zero => exact absurd HA.out (by simp [spec_ReadTTL.l0])
            | succ k2 =>
              have H := HA.out
              clear HA
              simp only [spec_ReadTTL.l0] at H
              by_cases c7 : x8_2 < (a0.size : Int)
              · rw [if_pos c7] at H
                have c7b0 : decide (x8_2 < (a0.size : Int)) = true := decide_eq_true c7
                clear c7
                by_cases c8 : 0 ≤ x8_2
                · rw [if_pos c8] at H
                  have c8b0 : decide (0 ≤ x8_2) = true := decide_eq_true c8
                  clear c8
                  replace H := Option.bind_eq_some_iff.mp H
                  obtain ⟨t103, A100, H⟩ := H
                  replace H : (if t103 = true then (spec_ReadTTL.l0 k2 a0 x6_2 x7_2 (wrap64 (x8_2 + 1))) else (if 0 ≤ x7_2 then (if x7_2 ≤ x8_2 then (if x8_2 ≤ (a0.size : Int) then ((spec_l03Number.f k2 (a0.extract (x7_2 : Int).toNat (x8_2 : Int).toNat) 10).bind fun bt104 => (if bt104.2 = true then ((spec_l03Unit.f k2 (bt a0 x8_2)).bind fun t106 => (if t106 = 0 then (some (0, 18)) else ((spec_l03Unit.f k2 (bt a0 x8_2)).bind fun t107 => (spec_ReadTTL.l0 k2 a0 (wrap64 (x6_2 + (wrap64 (bt104.1 * t107)))) (wrap64 (x8_2 + 1)) (wrap64 (x8_2 + 1)))))) else (some (0, 18)))) else (none)) else (none)) else (none))) = some (r1, r2) := H
                  have A10 := Aside0.mk A100
                  clear A100
                  by_cases c11 : t103 = true
                  · subst c11
                    have H1 : (spec_ReadTTL.l0 k2 a0 x6_2 x7_2 (wrap64 (x8_2 + 1))) = some (r1, r2) := by rw [if_pos rfl] at H; exact H
                    clear H
                    have H := H1
                    clear H1
                    have H' := Aside0.mk H
                    clear H
                    have p9 : 0 ≤ (x8_2 : Int) := of_decide_eq_true (by first | (with_reducible assumption) | assumption)
                    have q9 : x8_2 < (a0.size : Int) := of_decide_eq_true (by first | (with_reducible assumption) | assumption)
                    have hx9 := bt_at a0 x8_2
                    replace p9 := eq_true p9
                    replace q9 := eq_true q9
                    go_wp2_with (first | ((with_reducible refine gate_callee (f := 31) rfl ?_); refine goesL_ (some 34) rfl rfl Try.func31 (by kernel_rfl) rfl #[.int .u8 (bt a0 x8_2)] rfl (by (try simp only [List.map_toArray, List.map_cons, List.map_nil]); first | done | rfl | (simp only [List.length_drop, List.length_take]; rfl)) ?_; (with_reducible refine (spec_l01Digit.calls (bt a0 x8_2) true _ A10.out).mono ?_); rintro e w' ⟨rfl, ⟨nd, rfl⟩⟩; refine ⟨_, rfl, ?_⟩))
                    go_roundg k2
                    case measure => have := HJ3.out; have := HK2.out; omega
                    case rel => exact ⟨(x6_2), (x7_2), (wrap64 (x8_2 + 1)), (by first | rfl | (simp; done) | (simp [*]; done)), (by first | rfl | (simp; done) | (simp [*]; done)), (by first | rfl | (simp; done) | (simp [*]; done)), H', ⟨by have := HJ3.out; have := HK2.out; omega⟩, by repeat (first | exact Drawn0.refl _ | apply Drawn0.step)⟩
                  · replace c11 := Bool.eq_false_iff.mpr c11
                    subst c11
                    have H1 : (if 0 ≤ x7_2 then (if x7_2 ≤ x8_2 then (if x8_2 ≤ (a0.size : Int) then ((spec_l03Number.f k2 (a0.extract (x7_2 : Int).toNat (x8_2 : Int).toNat) 10).bind fun bt104 => (if bt104.2 = true then ((spec_l03Unit.f k2 (bt a0 x8_2)).bind fun t106 => (if t106 = 0 then (some (0, 18)) else ((spec_l03Unit.f k2 (bt a0 x8_2)).bind fun t107 => (spec_ReadTTL.l0 k2 a0 (wrap64 (x6_2 + (wrap64 (bt104.1 * t107)))) (wrap64 (x8_2 + 1)) (wrap64 (x8_2 + 1)))))) else (some (0, 18)))) else (none)) else (none)) else (none)) = some (r1, r2) := by rw [if_neg (show ¬ (false = true) by decide)] at H; exact H
                    clear H
                    have H := H1
                    clear H1
                    by_cases c12 : 0 ≤ x7_2
                    · rw [if_pos c12] at H
                      have c12b0 := eq_true c12
                      have c12b1 : decide (0 ≤ x7_2) = true := decide_eq_true c12
                      clear c12
                      by_cases c13 : x7_2 ≤ x8_2
                      · rw [if_pos c13] at H
                        have c13b0 := eq_true c13
                        have c13b1 : decide (x7_2 ≤ x8_2) = true := decide_eq_true c13
                        clear c13
                        by_cases c14 : x8_2 ≤ (a0.size : Int)
                        · rw [if_pos c14] at H
                          have c14b0 := eq_true c14
                          have c14b1 : decide (x8_2 ≤ (a0.size : Int)) = true := decide_eq_true c14
                          clear c14
                          replace H := Option.bind_eq_some_iff.mp H
                          obtain ⟨⟨t104, t105⟩, A150, H⟩ := H
                          replace H : (if t105 = true then ((spec_l03Unit.f k2 (bt a0 x8_2)).bind fun t106 => (if t106 = 0 then (some (0, 18)) else ((spec_l03Unit.f k2 (bt a0 x8_2)).bind fun t107 => (spec_ReadTTL.l0 k2 a0 (wrap64 (x6_2 + (wrap64 (t104 * t107)))) (wrap64 (x8_2 + 1)) (wrap64 (x8_2 + 1)))))) else (some (0, 18))) = some (r1, r2) := H
                          have A15 := Aside0.mk A150
                          clear A150
                          by_cases c16 : t105 = true
                          · subst c16
                            have H1 : ((spec_l03Unit.f k2 (bt a0 x8_2)).bind fun t106 => (if t106 = 0 then (some (0, 18)) else ((spec_l03Unit.f k2 (bt a0 x8_2)).bind fun t107 => (spec_ReadTTL.l0 k2 a0 (wrap64 (x6_2 + (wrap64 (t104 * t107)))) (wrap64 (x8_2 + 1)) (wrap64 (x8_2 + 1)))))) = some (r1, r2) := by rw [if_pos rfl] at H; exact H
                            clear H
                            have H := H1
                            clear H1
                            replace H := Option.bind_eq_some_iff.mp H
                            obtain ⟨t106, A180, H⟩ := H
                            replace H : (if t106 = 0 then (some (0, 18)) else ((spec_l03Unit.f k2 (bt a0 x8_2)).bind fun t107 => (spec_ReadTTL.l0 k2 a0 (wrap64 (x6_2 + (wrap64 (t104 * t107)))) (wrap64 (x8_2 + 1)) (wrap64 (x8_2 + 1))))) = some (r1, r2) := H
                            have A18 := Aside0.mk A180
                            clear A180
                            by_cases c19 : t106 = 0
                            · rw [if_pos c19] at H
                              have c19b0 : (t106 == 0) = true := beq_iff_eq.mpr c19
                              have c19b1 : (t106 != 0) = false := bne_eq_false_iff_eq.mpr c19
                              clear c19
                              simp only [Option.some.injEq, Prod.mk.injEq] at H
                              obtain ⟨rfl, rfl⟩ := H
                              have p9 : 0 ≤ (x8_2 : Int) := of_decide_eq_true (by first | (with_reducible assumption) | assumption)
                              have q9 : x8_2 < (a0.size : Int) := of_decide_eq_true (by first | (with_reducible assumption) | assumption)
                              have hx9 := bt_at a0 x8_2
                              replace p9 := eq_true p9
                              replace q9 := eq_true q9
                              go_wp2_with (first | ((with_reducible refine gate_callee (f := 31) rfl ?_); refine goesL_ (some 34) rfl rfl Try.func31 (by kernel_rfl) rfl #[.int .u8 (bt a0 x8_2)] rfl (by (try simp only [List.map_toArray, List.map_cons, List.map_nil]); first | done | rfl | (simp only [List.length_drop, List.length_take]; rfl)) ?_; (with_reducible refine (spec_l01Digit.calls (bt a0 x8_2) false _ A10.out).mono ?_); rintro e w' ⟨rfl, ⟨nd, rfl⟩⟩; refine ⟨_, rfl, ?_⟩) | ((with_reducible refine gate_callee (f := 30) rfl ?_); refine goesL_ (some 40) rfl rfl Try.func30 (by kernel_rfl) rfl #[.string (a0.extract (x7_2 : Int).toNat (x8_2 : Int).toNat), .int .i64 10] rfl (by (try simp only [List.map_toArray, List.map_cons, List.map_nil]); first | done | rfl | (simp only [List.length_drop, List.length_take]; rfl)) ?_; (with_reducible refine (spec_l03Number.calls k2 (a0.extract (x7_2 : Int).toNat (x8_2 : Int).toNat) 10 t104 true _ A15.out).mono ?_); rintro e w' ⟨rfl, ⟨nd, rfl⟩⟩; refine ⟨_, rfl, ?_⟩; have p17 : 0 ≤ (x8_2 : Int) := of_decide_eq_true (by first | (with_reducible assumption) | assumption); have q17 : x8_2 < (a0.size : Int) := of_decide_eq_true (by first | (with_reducible assumption) | assumption); have hx17 := bt_at a0 x8_2; replace p17 := eq_true p17; replace q17 := eq_true q17) | (go_at_call 32; (with_reducible refine (spec_l03Unit.calls k2 (bt a0 x8_2) t106 _ A18.out).mono ?_); rintro e w' ⟨rfl, ⟨nd, rfl⟩⟩))
                              go_ret2
                              exact ⟨by first | rfl | (simp; done) | (simp [*]; done), by repeat (first | exact Drawn0.refl _ | apply Drawn0.step)⟩
                            · rw [if_neg c19] at H
                              have c19b0 : (t106 == 0) = false := beq_eq_false_iff_ne.mpr c19
                              have c19b1 : (t106 != 0) = true := bne_iff_ne.mpr c19
                              replace H := Option.bind_eq_some_iff.mp H
                              obtain ⟨t107, A210, H⟩ := H
                              replace H : (spec_ReadTTL.l0 k2 a0 (wrap64 (x6_2 + (wrap64 (t104 * t107)))) (wrap64 (x8_2 + 1)) (wrap64 (x8_2 + 1))) = some (r1, r2) := H
                              have A21 := Aside0.mk A210
                              clear A210
                              have H' := Aside0.mk H
                              clear H
                              have p9 : 0 ≤ (x8_2 : Int) := of_decide_eq_true (by first | (with_reducible assumption) | assumption)
                              have q9 : x8_2 < (a0.size : Int) := of_decide_eq_true (by first | (with_reducible assumption) | assumption)
                              have hx9 := bt_at a0 x8_2
                              replace p9 := eq_true p9
                              replace q9 := eq_true q9
                              go_wp2_with (first | ((with_reducible refine gate_callee (f := 31) rfl ?_); refine goesL_ (some 34) rfl rfl Try.func31 (by kernel_rfl) rfl #[.int .u8 (bt a0 x8_2)] rfl (by (try simp only [List.map_toArray, List.map_cons, List.map_nil]); first | done | rfl | (simp only [List.length_drop, List.length_take]; rfl)) ?_; (with_reducible refine (spec_l01Digit.calls (bt a0 x8_2) false _ A10.out).mono ?_); rintro e w' ⟨rfl, ⟨nd, rfl⟩⟩; refine ⟨_, rfl, ?_⟩) | ((with_reducible refine gate_callee (f := 30) rfl ?_); refine goesL_ (some 40) rfl rfl Try.func30 (by kernel_rfl) rfl #[.string (a0.extract (x7_2 : Int).toNat (x8_2 : Int).toNat), .int .i64 10] rfl (by (try simp only [List.map_toArray, List.map_cons, List.map_nil]); first | done | rfl | (simp only [List.length_drop, List.length_take]; rfl)) ?_; (with_reducible refine (spec_l03Number.calls k2 (a0.extract (x7_2 : Int).toNat (x8_2 : Int).toNat) 10 t104 true _ A15.out).mono ?_); rintro e w' ⟨rfl, ⟨nd, rfl⟩⟩; refine ⟨_, rfl, ?_⟩; have p17 : 0 ≤ (x8_2 : Int) := of_decide_eq_true (by first | (with_reducible assumption) | assumption); have q17 : x8_2 < (a0.size : Int) := of_decide_eq_true (by first | (with_reducible assumption) | assumption); have hx17 := bt_at a0 x8_2; replace p17 := eq_true p17; replace q17 := eq_true q17) | (go_at_call 32; (with_reducible refine (spec_l03Unit.calls k2 (bt a0 x8_2) t106 _ A18.out).mono ?_); rintro e w' ⟨rfl, ⟨nd, rfl⟩⟩; have p20 : 0 ≤ (x8_2 : Int) := of_decide_eq_true (by first | (with_reducible assumption) | assumption); have q20 : x8_2 < (a0.size : Int) := of_decide_eq_true (by first | (with_reducible assumption) | assumption); have hx20 := bt_at a0 x8_2; replace p20 := eq_true p20; replace q20 := eq_true q20) | ((with_reducible refine gate_callee (f := 32) rfl ?_); refine goesL_ (some 57) rfl rfl Try.func32 (by kernel_rfl) rfl #[.int .u8 (bt a0 x8_2)] rfl (by (try simp only [List.map_toArray, List.map_cons, List.map_nil]); first | done | rfl | (simp only [List.length_drop, List.length_take]; rfl)) ?_; (with_reducible refine (spec_l03Unit.calls k2 (bt a0 x8_2) t107 _ A21.out).mono ?_); rintro e w' ⟨rfl, ⟨nd, rfl⟩⟩; refine ⟨_, rfl, ?_⟩))
                              go_roundg k2
                              case measure => have := HJ3.out; have := HK2.out; omega
                              case rel => exact ⟨(wrap64 (x6_2 + (wrap64 (t104 * t107)))), (wrap64 (x8_2 + 1)), (wrap64 (x8_2 + 1)), (by first | rfl | (simp; done) | (simp [*]; done)), (by first | rfl | (simp; done) | (simp [*]; done)), (by first | rfl | (simp; done) | (simp [*]; done)), H', ⟨by have := HJ3.out; have := HK2.out; omega⟩, by repeat (first | exact Drawn0.refl _ | apply Drawn0.step)⟩
                          · replace c16 := Bool.eq_false_iff.mpr c16
                            subst c16
                            have H1 : (some (0, 18)) = some (r1, r2) := by rw [if_neg (show ¬ (false = true) by decide)] at H; exact H
                            clear H
                            have H := H1
                            clear H1
                            simp only [Option.some.injEq, Prod.mk.injEq] at H
                            obtain ⟨rfl, rfl⟩ := H
                            have p9 : 0 ≤ (x8_2 : Int) := of_decide_eq_true (by first | (with_reducible assumption) | assumption)
                            have q9 : x8_2 < (a0.size : Int) := of_decide_eq_true (by first | (with_reducible assumption) | assumption)
                            have hx9 := bt_at a0 x8_2
                            replace p9 := eq_true p9
                            replace q9 := eq_true q9
                            go_wp2_with (first | ((with_reducible refine gate_callee (f := 31) rfl ?_); refine goesL_ (some 34) rfl rfl Try.func31 (by kernel_rfl) rfl #[.int .u8 (bt a0 x8_2)] rfl (by (try simp only [List.map_toArray, List.map_cons, List.map_nil]); first | done | rfl | (simp only [List.length_drop, List.length_take]; rfl)) ?_; (with_reducible refine (spec_l01Digit.calls (bt a0 x8_2) false _ A10.out).mono ?_); rintro e w' ⟨rfl, ⟨nd, rfl⟩⟩; refine ⟨_, rfl, ?_⟩) | ((with_reducible refine gate_callee (f := 30) rfl ?_); refine goesL_ (some 40) rfl rfl Try.func30 (by kernel_rfl) rfl #[.string (a0.extract (x7_2 : Int).toNat (x8_2 : Int).toNat), .int .i64 10] rfl (by (try simp only [List.map_toArray, List.map_cons, List.map_nil]); first | done | rfl | (simp only [List.length_drop, List.length_take]; rfl)) ?_; (with_reducible refine (spec_l03Number.calls k2 (a0.extract (x7_2 : Int).toNat (x8_2 : Int).toNat) 10 t104 false _ A15.out).mono ?_); rintro e w' ⟨rfl, ⟨nd, rfl⟩⟩; refine ⟨_, rfl, ?_⟩))
                            go_ret2
                            exact ⟨by first | rfl | (simp; done) | (simp [*]; done), by repeat (first | exact Drawn0.refl _ | apply Drawn0.step)⟩
                        · rw [if_neg c14] at H
                          exact absurd H (by simp)
                      · rw [if_neg c13] at H
                        exact absurd H (by simp)
                    · rw [if_neg c12] at H
                      exact absurd H (by simp)
                · rw [if_neg c8] at H
                  exact absurd H (by simp)
              · rw [if_neg c7] at H
                have c7b0 : decide (x8_2 < (a0.size : Int)) = false := decide_eq_false c7
                clear c7
                by_cases c22 : x7_2 = (a0.size : Int)
                · rw [if_pos c22] at H
                  have c22b0 : (x7_2 == (a0.size : Int)) = true := beq_iff_eq.mpr c22
                  have c22b1 : (x7_2 != (a0.size : Int)) = false := bne_eq_false_iff_eq.mpr c22
                  clear c22
                  by_cases c23 : x7_2 = 0
                  · rw [if_pos c23] at H
                    have c23b0 : (x7_2 == 0) = true := beq_iff_eq.mpr c23
                    have c23b1 : (x7_2 != 0) = false := bne_eq_false_iff_eq.mpr c23
                    clear c23
                    simp only [Option.some.injEq, Prod.mk.injEq] at H
                    obtain ⟨rfl, rfl⟩ := H
                    go_wp2
                    go_ret2
                    exact ⟨by first | rfl | (simp; done) | (simp [*]; done), by repeat (first | exact Drawn0.refl _ | apply Drawn0.step)⟩
                  · rw [if_neg c23] at H
                    have c23b0 : (x7_2 == 0) = false := beq_eq_false_iff_ne.mpr c23
                    have c23b1 : (x7_2 != 0) = true := bne_iff_ne.mpr c23
                    by_cases c24 : x6_2 > 2147483647
                    · rw [if_pos c24] at H
                      have c24b0 : decide (2147483647 < x6_2) = true := decide_eq_true c24
                      clear c24
                      simp only [Option.some.injEq, Prod.mk.injEq] at H
                      obtain ⟨rfl, rfl⟩ := H
                      go_wp2
                      go_ret2
                      exact ⟨by first | rfl | (simp; done) | (simp [*]; done), by repeat (first | exact Drawn0.refl _ | apply Drawn0.step)⟩
                    · rw [if_neg c24] at H
                      have c24b0 : decide (2147483647 < x6_2) = false := decide_eq_false c24
                      clear c24
                      simp only [Option.some.injEq, Prod.mk.injEq] at H
                      obtain ⟨rfl, rfl⟩ := H
                      go_wp2
                      go_ret2
                      exact ⟨by first | rfl | (simp; done) | (simp [*]; done), by repeat (first | exact Drawn0.refl _ | apply Drawn0.step)⟩
                · rw [if_neg c22] at H
                  have c22b0 : (x7_2 == (a0.size : Int)) = false := beq_eq_false_iff_ne.mpr c22
                  have c22b1 : (x7_2 != (a0.size : Int)) = true := bne_iff_ne.mpr c22
                  simp only [Option.some.injEq, Prod.mk.injEq] at H
                  obtain ⟨rfl, rfl⟩ := H
                  go_wp2
                  go_ret2
                  exact ⟨by first | rfl | (simp; done) | (simp [*]; done), by repeat (first | exact Drawn0.refl _ | apply Drawn0.step)⟩

end Go.Proofs.Ytpbmnokmpihnjaa.F
