-- PRINTED BY print.sh 35421559b90ae4d0a3588c463048766b98c2df88dd9212a6774a882060cdf62d: not written by this session
import Derived.Test.YtelmbgholdnaaaaPFnExactMapTypesx0
namespace Go.Proofs.Ytelmbgholdnaaaa.PFnExactMapTypes
open Go.RowKit Go.Proofs.YtelmbgholdnaaaaW.PrintWords Go.Proofs.YtelmbgholdnaaaaW.PrintLast Go.Proofs.YtelmbgholdnaaaaW.PrintMore
attribute [local go_sem] max2_int min2_int max_two min_two max_three min_three max_four min_four   -- for this text's walks alone
set_option linter.unusedVariables false
set_option linter.unusedSimpArgs false

/-! ### spec_l02Map: function 52 -/
def spec_l02Map.l0 : Nat → ByteArray → Int → Option (Bool)
  | 0, _, _ => none
  | k + 1, x0, x3 => if x0.toList = ([] : List UInt8) then (some true) else (if (x0.size : Int) < 2 then (some false) else (if 0 < (x0.size : Int) then (if 1 < (x0.size : Int) then (if (wrap64 (bt x0 0)) ≤ x3 then (some false) else (if (wrap64 (bt x0 1)) < 1 then (some false) else (if (wrap64 (bt x0 1)) > 32 then (some false) else (if (x0.size : Int) < (wrap64 ((wrap64 (bt x0 1)) + 2)) then (some false) else (if 0 ≤ (wrap64 ((wrap64 (bt x0 1)) + 1)) then (if (wrap64 ((wrap64 (bt x0 1)) + 1)) < (x0.size : Int) then (if (bt x0 (wrap64 ((wrap64 (bt x0 1)) + 1))) = 0 then (some false) else (if 0 ≤ (wrap64 ((wrap64 (bt x0 1)) + 2)) then (if (wrap64 ((wrap64 (bt x0 1)) + 2)) ≤ (x0.size : Int) then (spec_l02Map.l0 k (x0.extract ((wrap64 ((wrap64 (bt x0 1)) + 2)) : Int).toNat x0.size) (wrap64 (bt x0 0))) else (none)) else (none))) else (none)) else (none)))))) else (none)) else (none)))
def spec_l02Map.f (k : Nat) (a0 : ByteArray) : Option (Bool) := spec_l02Map.l0 k a0 (-1)
theorem spec_l02Map.mono_l : ∀ k, (∀ y0 y1, LeO (spec_l02Map.l0 k y0 y1) (spec_l02Map.l0 (k + 1) y0 y1))
  | 0 => fun _ _ r h => by simp [spec_l02Map.l0] at h
  | k + 1 => by
    have ih0 := spec_l02Map.mono_l k
    · intro y0 y1
      unfold spec_l02Map.l0
      repeat' first
      | (with_reducible exact ih0 _ _)
      | (with_reducible exact LeO.refl _)
      | (with_reducible exact LeO.none _)
      | (with_reducible refine LeO.ite ?_ ?_)
      | (with_reducible refine LeO.bind ?_ (fun _ => ?_))
      | exact ih0 _ _
      | exact LeO.none _
      | refine LeO.ite ?_ ?_
      | refine LeO.bind ?_ (fun _ => ?_)
theorem spec_l02Map.mono : ∀ a0 k, LeO (spec_l02Map.f k a0) (spec_l02Map.f (k + 1) a0) := by
  intro a0 k
  have ih0 := spec_l02Map.mono_l k
  unfold spec_l02Map.f
  repeat' first
      | (with_reducible exact ih0 _ _)
      | (with_reducible exact LeO.refl _)
      | (with_reducible exact LeO.none _)
      | (with_reducible refine LeO.ite ?_ ?_)
      | (with_reducible refine LeO.bind ?_ (fun _ => ?_))
      | exact ih0 _ _
      | exact LeO.none _
      | refine LeO.ite ?_ ?_
      | refine LeO.bind ?_ (fun _ => ?_)
set_option maxHeartbeats 8000000 in
set_option maxRecDepth 100000 in
theorem spec_l02Map.calls (k : Nat) (a0 : ByteArray) (r : Bool) (w : World) (h : spec_l02Map.f k a0 = some r) :
    Calls Try.prog 52 #[.string a0] w fun e w' => e = .returned (.bool r) ∧ Drawn0 w w' := by
  have H : (spec_l02Map.l0 k a0 (-1)) = some r := h
  clear h
  have H' := Aside0.mk H
  clear H
  go_enter Try.func52, Try.ntmps52
  go_wp2
  go_loopg [0, 3] k (fun kq v0 v3 w' => ∃ (x0_1 : ByteArray) (x3_1 : Int), v0 = .string x0_1 ∧ v3 = .int .i64 x3_1 ∧ Aside0 (spec_l02Map.l0 kq x0_1 x3_1 = some r) ∧ Aside0 (kq ≤ k) ∧ Drawn0 w w')
  case atStart => exact ⟨(a0), ((-1)), (by first | rfl | (simp; done) | (simp [*]; done)), (by first | rfl | (simp; done) | (simp [*]; done)), H', ⟨Nat.le_refl _⟩, by repeat (first | exact Drawn0.refl _ | apply Drawn0.step)⟩
  case round =>
    clear H'
    obtain ⟨x0_1, x3_1, rfl, rfl, HA, HK1, ⟨m1, rfl⟩⟩ := hrel
    cases gk with
    | zero => exact absurd HA.out (by simp [spec_l02Map.l0])
    | succ k1 =>
      have H := HA.out
      clear HA
      simp only [spec_l02Map.l0] at H
      by_cases c2 : x0_1.toList = ([] : List UInt8)
      · rw [if_pos c2] at H
        have c2b0 : (x0_1.toList == ([] : List UInt8)) = true := beq_iff_eq.mpr c2
        have c2b1 : (x0_1.toList != ([] : List UInt8)) = false := bne_eq_false_iff_eq.mpr c2
        clear c2
        obtain rfl := Option.some.inj H
        go_wp2
        go_ret
        exact ⟨by first | rfl | (simp; done) | (simp [*]; done), by repeat (first | exact Drawn0.refl _ | apply Drawn0.step)⟩
      · rw [if_neg c2] at H
        have c2b0 : (x0_1.toList == ([] : List UInt8)) = false := beq_eq_false_iff_ne.mpr c2
        have c2b1 : (x0_1.toList != ([] : List UInt8)) = true := bne_iff_ne.mpr c2
        by_cases c3 : (x0_1.size : Int) < 2
        · rw [if_pos c3] at H
          have c3b0 : decide ((x0_1.size : Int) < 2) = true := decide_eq_true c3
          have c3b1 : decide (x0_1.size < 2) = true := decide_eq_true (by omega)
          clear c3
          obtain rfl := Option.some.inj H
          go_wp2
          go_ret
          exact ⟨by first | rfl | (simp; done) | (simp [*]; done), by repeat (first | exact Drawn0.refl _ | apply Drawn0.step)⟩
        · rw [if_neg c3] at H
          have c3b0 : decide ((x0_1.size : Int) < 2) = false := decide_eq_false c3
          have c3b1 : decide (x0_1.size < 2) = false := decide_eq_false (by omega)
          clear c3
          by_cases c4 : 0 < (x0_1.size : Int)
          · rw [if_pos c4] at H
            have c4b0 : decide (0 < (x0_1.size : Int)) = true := decide_eq_true c4
            have c4b1 : decide (0 < x0_1.size) = true := decide_eq_true (by omega)
            clear c4
            by_cases c6 : 1 < (x0_1.size : Int)
            · rw [if_pos c6] at H
              have c6b0 : decide (1 < (x0_1.size : Int)) = true := decide_eq_true c6
              have c6b1 : decide (1 < x0_1.size) = true := decide_eq_true (by omega)
              clear c6
              by_cases c8 : (wrap64 (bt x0_1 0)) ≤ x3_1
              · rw [if_pos c8] at H
                have c8b0 : decide ((wrap64 (bt x0_1 0)) ≤ x3_1) = true := decide_eq_true c8
                clear c8
                obtain rfl := Option.some.inj H
                have p5 : 0 ≤ (0 : Int) := (by omega)
                have q5 : 0 < x0_1.size := (by have : (0 : Int) < (x0_1.size : Int) := of_decide_eq_true (by first | (with_reducible assumption) | assumption); omega)
                have hx5 : ∀ h : 0 < x0_1.size, ((x0_1[0]'h).toNat : Int) = bt x0_1 0 := bt_at x0_1 0
                clear p5
                have qi5 : (0 < (x0_1.size : Int)) = True := eq_true (of_decide_eq_true (by first | (with_reducible assumption) | assumption))
                replace q5 := eq_true q5
                have p7 : 0 ≤ (1 : Int) := (by omega)
                have q7 : 1 < x0_1.size := (by have : (1 : Int) < (x0_1.size : Int) := of_decide_eq_true (by first | (with_reducible assumption) | assumption); omega)
                have hx7 : ∀ h : 1 < x0_1.size, ((x0_1[1]'h).toNat : Int) = bt x0_1 1 := bt_at x0_1 1
                clear p7
                have qi7 : (1 < (x0_1.size : Int)) = True := eq_true (of_decide_eq_true (by first | (with_reducible assumption) | assumption))
                replace q7 := eq_true q7
                go_wp2
                go_ret
                exact ⟨by first | rfl | (simp; done) | (simp [*]; done), by repeat (first | exact Drawn0.refl _ | apply Drawn0.step)⟩
              · rw [if_neg c8] at H
                have c8b0 : decide ((wrap64 (bt x0_1 0)) ≤ x3_1) = false := decide_eq_false c8
                clear c8
                by_cases c9 : (wrap64 (bt x0_1 1)) < 1
                · rw [if_pos c9] at H
                  have c9b0 : decide ((wrap64 (bt x0_1 1)) < 1) = true := decide_eq_true c9
                  clear c9
                  obtain rfl := Option.some.inj H
                  have p5 : 0 ≤ (0 : Int) := (by omega)
                  have q5 : 0 < x0_1.size := (by have : (0 : Int) < (x0_1.size : Int) := of_decide_eq_true (by first | (with_reducible assumption) | assumption); omega)
                  have hx5 : ∀ h : 0 < x0_1.size, ((x0_1[0]'h).toNat : Int) = bt x0_1 0 := bt_at x0_1 0
                  clear p5
                  have qi5 : (0 < (x0_1.size : Int)) = True := eq_true (of_decide_eq_true (by first | (with_reducible assumption) | assumption))
                  replace q5 := eq_true q5
                  have p7 : 0 ≤ (1 : Int) := (by omega)
                  have q7 : 1 < x0_1.size := (by have : (1 : Int) < (x0_1.size : Int) := of_decide_eq_true (by first | (with_reducible assumption) | assumption); omega)
                  have hx7 : ∀ h : 1 < x0_1.size, ((x0_1[1]'h).toNat : Int) = bt x0_1 1 := bt_at x0_1 1
                  clear p7
                  have qi7 : (1 < (x0_1.size : Int)) = True := eq_true (of_decide_eq_true (by first | (with_reducible assumption) | assumption))
                  replace q7 := eq_true q7
                  go_wp2
                  go_ret
                  exact ⟨by first | rfl | (simp; done) | (simp [*]; done), by repeat (first | exact Drawn0.refl _ | apply Drawn0.step)⟩
                · rw [if_neg c9] at H
                  have c9b0 : decide ((wrap64 (bt x0_1 1)) < 1) = false := decide_eq_false c9
                  clear c9
                  by_cases c10 : (wrap64 (bt x0_1 1)) > 32
                  · rw [if_pos c10] at H
                    have c10b0 : decide (32 < (wrap64 (bt x0_1 1))) = true := decide_eq_true c10
                    clear c10
                    obtain rfl := Option.some.inj H
                    have p5 : 0 ≤ (0 : Int) := (by omega)
                    have q5 : 0 < x0_1.size := (by have : (0 : Int) < (x0_1.size : Int) := of_decide_eq_true (by first | (with_reducible assumption) | assumption); omega)
                    have hx5 : ∀ h : 0 < x0_1.size, ((x0_1[0]'h).toNat : Int) = bt x0_1 0 := bt_at x0_1 0
                    clear p5
                    have qi5 : (0 < (x0_1.size : Int)) = True := eq_true (of_decide_eq_true (by first | (with_reducible assumption) | assumption))
                    replace q5 := eq_true q5
                    have p7 : 0 ≤ (1 : Int) := (by omega)
                    have q7 : 1 < x0_1.size := (by have : (1 : Int) < (x0_1.size : Int) := of_decide_eq_true (by first | (with_reducible assumption) | assumption); omega)
                    have hx7 : ∀ h : 1 < x0_1.size, ((x0_1[1]'h).toNat : Int) = bt x0_1 1 := bt_at x0_1 1
                    clear p7
                    have qi7 : (1 < (x0_1.size : Int)) = True := eq_true (of_decide_eq_true (by first | (with_reducible assumption) | assumption))
                    replace q7 := eq_true q7
                    go_wp2
                    go_ret
                    exact ⟨by first | rfl | (simp; done) | (simp [*]; done), by repeat (first | exact Drawn0.refl _ | apply Drawn0.step)⟩
                  · rw [if_neg c10] at H
                    have c10b0 : decide (32 < (wrap64 (bt x0_1 1))) = false := decide_eq_false c10
                    clear c10
                    by_cases c11 : (x0_1.size : Int) < (wrap64 ((wrap64 (bt x0_1 1)) + 2))
                    · rw [if_pos c11] at H
                      have c11b0 : decide ((x0_1.size : Int) < (wrap64 ((wrap64 (bt x0_1 1)) + 2))) = true := decide_eq_true c11
                      clear c11
                      obtain rfl := Option.some.inj H
                      have p5 : 0 ≤ (0 : Int) := (by omega)
                      have q5 : 0 < x0_1.size := (by have : (0 : Int) < (x0_1.size : Int) := of_decide_eq_true (by first | (with_reducible assumption) | assumption); omega)
                      have hx5 : ∀ h : 0 < x0_1.size, ((x0_1[0]'h).toNat : Int) = bt x0_1 0 := bt_at x0_1 0
                      clear p5
                      have qi5 : (0 < (x0_1.size : Int)) = True := eq_true (of_decide_eq_true (by first | (with_reducible assumption) | assumption))
                      replace q5 := eq_true q5
                      have p7 : 0 ≤ (1 : Int) := (by omega)
                      have q7 : 1 < x0_1.size := (by have : (1 : Int) < (x0_1.size : Int) := of_decide_eq_true (by first | (with_reducible assumption) | assumption); omega)
                      have hx7 : ∀ h : 1 < x0_1.size, ((x0_1[1]'h).toNat : Int) = bt x0_1 1 := bt_at x0_1 1
                      clear p7
                      have qi7 : (1 < (x0_1.size : Int)) = True := eq_true (of_decide_eq_true (by first | (with_reducible assumption) | assumption))
                      replace q7 := eq_true q7
                      go_wp2
                      go_ret
                      exact ⟨by first | rfl | (simp; done) | (simp [*]; done), by repeat (first | exact Drawn0.refl _ | apply Drawn0.step)⟩
                    · rw [if_neg c11] at H
                      have c11b0 : decide ((x0_1.size : Int) < (wrap64 ((wrap64 (bt x0_1 1)) + 2))) = false := decide_eq_false c11
                      clear c11
                      obtain ⟨ji12, hji12⟩ : ∃ j_ : Int, (wrap64 ((wrap64 (bt x0_1 1)) + 1)) = j_ := ⟨_, rfl⟩
                      replace H : (if 0 ≤ (ji12) then (if (ji12) < (x0_1.size : Int) then (if (bt x0_1 (ji12)) = 0 then (some false) else (if 0 ≤ (wrap64 ((wrap64 (bt x0_1 1)) + 2)) then (if (wrap64 ((wrap64 (bt x0_1 1)) + 2)) ≤ (x0_1.size : Int) then (spec_l02Map.l0 k1 (x0_1.extract ((wrap64 ((wrap64 (bt x0_1 1)) + 2)) : Int).toNat x0_1.size) (wrap64 (bt x0_1 0))) else (none)) else (none))) else (none)) else (none)) = some r := by first | (rw [hji12] at H; exact H) | (simp only [hji12] at H ⊢; exact H)
                      have hji12w : (IntKind.i64.wrap ((wrap64 (bt x0_1 1)) + 1)) = ji12 := (i64_w _).trans hji12
                      by_cases c13 : 0 ≤ (ji12)
                      · rw [if_pos c13] at H
                        have c13b0 : decide (0 ≤ (ji12)) = true := decide_eq_true c13
                        clear c13
                        by_cases c14 : (ji12) < (x0_1.size : Int)
                        · rw [if_pos c14] at H
                          have c14b0 : decide ((ji12) < (x0_1.size : Int)) = true := decide_eq_true c14
                          clear c14
                          by_cases c16 : (bt x0_1 (ji12)) = 0
                          · rw [if_pos c16] at H
                            have c16b0 : ((bt x0_1 (ji12)) == 0) = true := beq_iff_eq.mpr c16
                            have c16b1 : ((bt x0_1 (ji12)) != 0) = false := bne_eq_false_iff_eq.mpr c16
                            clear c16
                            obtain rfl := Option.some.inj H
                            have p5 : 0 ≤ (0 : Int) := (by omega)
                            have q5 : 0 < x0_1.size := (by have : (0 : Int) < (x0_1.size : Int) := of_decide_eq_true (by first | (with_reducible assumption) | assumption); omega)
                            have hx5 : ∀ h : 0 < x0_1.size, ((x0_1[0]'h).toNat : Int) = bt x0_1 0 := bt_at x0_1 0
                            clear p5
                            have qi5 : (0 < (x0_1.size : Int)) = True := eq_true (of_decide_eq_true (by first | (with_reducible assumption) | assumption))
                            replace q5 := eq_true q5
                            have p7 : 0 ≤ (1 : Int) := (by omega)
                            have q7 : 1 < x0_1.size := (by have : (1 : Int) < (x0_1.size : Int) := of_decide_eq_true (by first | (with_reducible assumption) | assumption); omega)
                            have hx7 : ∀ h : 1 < x0_1.size, ((x0_1[1]'h).toNat : Int) = bt x0_1 1 := bt_at x0_1 1
                            clear p7
                            have qi7 : (1 < (x0_1.size : Int)) = True := eq_true (of_decide_eq_true (by first | (with_reducible assumption) | assumption))
                            replace q7 := eq_true q7
                            have p15 : 0 ≤ ((ji12) : Int) := of_decide_eq_true (by first | (with_reducible assumption) | assumption)
                            have q15 : (ji12) < (x0_1.size : Int) := of_decide_eq_true (by first | (with_reducible assumption) | assumption)
                            have hx15 := bt_at x0_1 (ji12)
                            replace p15 := eq_true p15
                            replace q15 := eq_true q15
                            go_wp2
                            go_ret
                            exact ⟨by first | rfl | (simp; done) | (simp only [← hji12] <;> (first | rfl | simp)) | (simp [*]; done), by repeat (first | exact Drawn0.refl _ | apply Drawn0.step)⟩
                          · rw [if_neg c16] at H
                            have c16b0 : ((bt x0_1 (ji12)) == 0) = false := beq_eq_false_iff_ne.mpr c16
                            have c16b1 : ((bt x0_1 (ji12)) != 0) = true := bne_iff_ne.mpr c16
                            obtain ⟨ji17, hji17⟩ : ∃ j_ : Int, (wrap64 ((wrap64 (bt x0_1 1)) + 2)) = j_ := ⟨_, rfl⟩
                            replace H : (if 0 ≤ (ji17) then (if (ji17) ≤ (x0_1.size : Int) then (spec_l02Map.l0 k1 (x0_1.extract ((ji17) : Int).toNat x0_1.size) (wrap64 (bt x0_1 0))) else (none)) else (none)) = some r := by first | (rw [hji17] at H; exact H) | (simp only [hji17] at H ⊢; exact H)
                            (try rw [hji17] at c11b0)
                            have hji17w : (IntKind.i64.wrap ((wrap64 (bt x0_1 1)) + 2)) = ji17 := (i64_w _).trans hji17
                            by_cases c18 : 0 ≤ (ji17)
                            · rw [if_pos c18] at H
                              have c18b0 := eq_true c18
                              have c18b1 : decide (0 ≤ (ji17)) = true := decide_eq_true c18
                              clear c18
                              by_cases c19 : (ji17) ≤ (x0_1.size : Int)
                              · rw [if_pos c19] at H
                                have c19b0 := eq_true c19
                                have c19b1 : decide ((ji17) ≤ (x0_1.size : Int)) = true := decide_eq_true c19
                                clear c19
                                have H' := Aside0.mk H
                                clear H
                                have p5 : 0 ≤ (0 : Int) := (by omega)
                                have q5 : 0 < x0_1.size := (by have : (0 : Int) < (x0_1.size : Int) := of_decide_eq_true (by first | (with_reducible assumption) | assumption); omega)
                                have hx5 : ∀ h : 0 < x0_1.size, ((x0_1[0]'h).toNat : Int) = bt x0_1 0 := bt_at x0_1 0
                                clear p5
                                have qi5 : (0 < (x0_1.size : Int)) = True := eq_true (of_decide_eq_true (by first | (with_reducible assumption) | assumption))
                                replace q5 := eq_true q5
                                have p7 : 0 ≤ (1 : Int) := (by omega)
                                have q7 : 1 < x0_1.size := (by have : (1 : Int) < (x0_1.size : Int) := of_decide_eq_true (by first | (with_reducible assumption) | assumption); omega)
                                have hx7 : ∀ h : 1 < x0_1.size, ((x0_1[1]'h).toNat : Int) = bt x0_1 1 := bt_at x0_1 1
                                clear p7
                                have qi7 : (1 < (x0_1.size : Int)) = True := eq_true (of_decide_eq_true (by first | (with_reducible assumption) | assumption))
                                replace q7 := eq_true q7
                                have p15 : 0 ≤ ((ji12) : Int) := of_decide_eq_true (by first | (with_reducible assumption) | assumption)
                                have q15 : (ji12) < (x0_1.size : Int) := of_decide_eq_true (by first | (with_reducible assumption) | assumption)
                                have hx15 := bt_at x0_1 (ji12)
                                replace p15 := eq_true p15
                                replace q15 := eq_true q15
                                go_wp2
                                go_roundg k1
                                case measure => have := HK1.out; omega
                                case rel => exact ⟨(x0_1.extract ((ji17) : Int).toNat x0_1.size), (wrap64 (bt x0_1 0)), (by first | rfl | (simp; done) | (simp only [← hji17] <;> (first | rfl | simp)) | (simp [*]; done)), (by first | rfl | (simp; done) | (simp [*]; done)), H', ⟨by have := HK1.out; omega⟩, by repeat (first | exact Drawn0.refl _ | apply Drawn0.step)⟩
                              · rw [if_neg c19] at H
                                exact absurd H (by simp)
                            · rw [if_neg c18] at H
                              exact absurd H (by simp)
                        · rw [if_neg c14] at H
                          exact absurd H (by simp)
                      · rw [if_neg c13] at H
                        exact absurd H (by simp)
            · rw [if_neg c6] at H
              exact absurd H (by simp)
          · rw [if_neg c4] at H
            exact absurd H (by simp)

/-! ### spec_MapTypes: function 23 -/
mutual
def spec_MapTypes.l0 : Nat → List Int → ByteArray → Option (List Int × Int)
  | 0, _, _ => none
  | k + 1, x4, x5 => if x5.toList = ([] : List UInt8) then (some (x4, 0)) else (spec_MapTypes.l1 k x4 x5 0)
def spec_MapTypes.l1 : Nat → List Int → ByteArray → Int → Option (List Int × Int)
  | 0, _, _, _ => none
  | k + 1, x4, x5, x6 => if 1 < (x5.size : Int) then (if x6 < (wrap64 (8 * (wrap64 (bt x5 1)))) then (if 0 ≤ (wrap64 (2 + (wrap64 (Int.tdiv x6 8)))) then (if (wrap64 (2 + (wrap64 (Int.tdiv x6 8)))) < (x5.size : Int) then (if 0 ≤ (IntKind.u64.wrap (wrap64 (7 - (Int.tmod x6 8)))) then (if (Go.bits .and .u8 (shr .u8 (bt x5 (wrap64 (2 + (wrap64 (Int.tdiv x6 8))))) (IntKind.u64.wrap (wrap64 (7 - (Int.tmod x6 8))))) 1) = 1 then (if 0 < (x5.size : Int) then (if x4.length < 17592186044416 then (spec_MapTypes.l1 k (x4 ++ [wrap64 ((wrap64 (256 * (wrap64 (bt x5 0)))) + x6)]) x5 (wrap64 (x6 + 1))) else (none)) else (none)) else (spec_MapTypes.l1 k x4 x5 (wrap64 (x6 + 1)))) else (none)) else (none)) else (none)) else (if 0 ≤ (wrap64 ((wrap64 (bt x5 1)) + 2)) then (if (wrap64 ((wrap64 (bt x5 1)) + 2)) ≤ (x5.size : Int) then (spec_MapTypes.l0 k x4 (x5.extract ((wrap64 ((wrap64 (bt x5 1)) + 2)) : Int).toNat x5.size)) else (none)) else (none))) else (none)
end
def spec_MapTypes.f (k : Nat) (a0 : ByteArray) : Option (List Int × Int) := (spec_l02Map.f k a0).bind fun t101 => (if t101 = true then (spec_MapTypes.l0 k (([] : List Int)) a0) else (some (([] : List Int), 7)))
theorem spec_MapTypes.mono_l : ∀ k, (∀ y0 y1, LeO (spec_MapTypes.l0 k y0 y1) (spec_MapTypes.l0 (k + 1) y0 y1)) ∧ (∀ y0 y1 y2, LeO (spec_MapTypes.l1 k y0 y1 y2) (spec_MapTypes.l1 (k + 1) y0 y1 y2))
  | 0 => ⟨fun _ _ r h => by simp [spec_MapTypes.l0] at h, fun _ _ _ r h => by simp [spec_MapTypes.l1] at h⟩
  | k + 1 => by
    obtain ⟨ih0, ih1⟩ := spec_MapTypes.mono_l k
    refine ⟨?_, ?_⟩
    · intro y0 y1
      unfold spec_MapTypes.l0
      repeat' first
      | (with_reducible exact ih0 _ _)
      | (with_reducible exact ih1 _ _ _)
      | (with_reducible exact spec_l02Map.mono _ _)
      | (with_reducible exact LeO.refl _)
      | (with_reducible exact LeO.none _)
      | (with_reducible refine LeO.ite ?_ ?_)
      | (with_reducible refine LeO.bind ?_ (fun _ => ?_))
      | exact ih0 _ _
      | exact ih1 _ _ _
      | exact spec_l02Map.mono _ _
      | exact LeO.none _
      | refine LeO.ite ?_ ?_
      | refine LeO.bind ?_ (fun _ => ?_)
    · intro y0 y1 y2
      unfold spec_MapTypes.l1
      repeat' first
      | (with_reducible exact ih0 _ _)
      | (with_reducible exact ih1 _ _ _)
      | (with_reducible exact spec_l02Map.mono _ _)
      | (with_reducible exact LeO.refl _)
      | (with_reducible exact LeO.none _)
      | (with_reducible refine LeO.ite ?_ ?_)
      | (with_reducible refine LeO.bind ?_ (fun _ => ?_))
      | exact ih0 _ _
      | exact ih1 _ _ _
      | exact spec_l02Map.mono _ _
      | exact LeO.none _
      | refine LeO.ite ?_ ?_
      | refine LeO.bind ?_ (fun _ => ?_)
theorem spec_MapTypes.mono : ∀ a0 k, LeO (spec_MapTypes.f k a0) (spec_MapTypes.f (k + 1) a0) := by
  intro a0 k
  obtain ⟨ih0, ih1⟩ := spec_MapTypes.mono_l k
  unfold spec_MapTypes.f
  repeat' first
      | (with_reducible exact ih0 _ _)
      | (with_reducible exact ih1 _ _ _)
      | (with_reducible exact spec_l02Map.mono _ _)
      | (with_reducible exact LeO.refl _)
      | (with_reducible exact LeO.none _)
      | (with_reducible refine LeO.ite ?_ ?_)
      | (with_reducible refine LeO.bind ?_ (fun _ => ?_))
      | exact ih0 _ _
      | exact ih1 _ _ _
      | exact spec_l02Map.mono _ _
      | exact LeO.none _
      | refine LeO.ite ?_ ?_
      | refine LeO.bind ?_ (fun _ => ?_)
set_option maxHeartbeats 8000000 in
set_option maxRecDepth 100000 in
theorem spec_MapTypes.calls (k : Nat) (a0 : ByteArray) (r1 : List Int) (r2 : Int) (w : World) (h : spec_MapTypes.f k a0 = some (r1, r2)) :
    Calls Try.prog 23 #[.string a0] w fun e w' => ∃ v0_ : Value, e = .returned (.tuple #[v0_, .int .i64 r2]) ∧ Kd.R (Kd.int .i64) 2 w' w.heap.size (fun _ => True) v0_ r1 ∧ Below w.heap.size w w' := by
  have HB := Aside0.mk (Below.refl w.heap.size w)
  have H : ((spec_l02Map.f k a0).bind fun t101 => (if t101 = true then (spec_MapTypes.l0 k (([] : List Int)) a0) else (some (([] : List Int), 7)))) = some (r1, r2) := h
  clear h
  replace H := Option.bind_eq_some_iff.mp H
  obtain ⟨t101, A20, H⟩ := H
  replace H : (if t101 = true then (spec_MapTypes.l0 k (([] : List Int)) a0) else (some (([] : List Int), 7))) = some (r1, r2) := H
  have A2 := Aside0.mk A20
  clear A20
  by_cases c3 : t101 = true
  · subst c3
    have H1 : (spec_MapTypes.l0 k (([] : List Int)) a0) = some (r1, r2) := by rw [if_pos rfl] at H; exact H
    clear H
    have H := H1
    clear H1
    obtain ⟨y102, hy102⟩ : ∃ y_ : List Int, y_ = (([] : List Int)) := ⟨_, rfl⟩
    replace H : (spec_MapTypes.l0 k y102 a0) = some (r1, r2) := by first | (rw [hy102]; with_reducible exact H) | (have H2_ := (Option.bind_some _ _).symm.trans H; rw [hy102]; with_reducible exact H2_) | (have H2_ := (Option.bind_some _ _).symm.trans H; with_reducible exact H2_) | with_reducible exact H | (rw [hy102]; exact H) | exact H
    have Ny102 := Aside0.mk hy102
    clear hy102
    have H' := Aside0.mk H
    clear H
    go_enter Try.func23, Try.ntmps23
    go_wp2_with (first | ((with_reducible refine gate_callee (f := 52) rfl ?_); refine goesL_ (some 8) rfl rfl Try.func52 (by kernel_rfl) rfl #[.string a0] rfl (by (try simp only [List.map_toArray, List.map_cons, List.map_nil]); first | done | rfl | (simp only [List.length_drop, List.length_take]; rfl)) ?_; (with_reducible refine (spec_l02Map.calls k a0 true _ A2.out).mono ?_); rintro e w' ⟨rfl, ⟨nd, rfl⟩⟩; refine ⟨_, rfl, ?_⟩) | ((with_reducible refine gate_dst (N := 10) rfl ?_); refine Kd.R_lit (Kd.int .i64) _ 2 ?hg (N := 10) ?hd (xs := ([] : List Int)) (inner := []) (ok := fun _ => True) (okp := fun _ => True) ?hr ?hp (fun _ hk => hk) trivial (Below.refl _ _) (Nat.le_refl _) (by simp) ?_; (case hd => rfl); (case hg => rfl); (case hr => first | (go_simp; done) | (go_simp; rfl)); (case hp => exact (Reps.none _ _)); intro v103 w4 ho5 hb hg_ hnew_; clear hg_ hnew_; (first | rw [← Ny102.out] at ho5 | (simp only [Int.reduceToNat] at ho5; rw [← Ny102.out] at ho5)); have n0_ := Aside0.mk (Kd.R_lower ho5 (below_size (by repeat (first | (with_reducible first | exact HB.out | apply below_alloc | apply pw_below_drewN | apply below_drew1) | exact HB.out)))); have n1_ := Aside0.mk (below_step (by repeat (first | (with_reducible first | exact HB.out | apply below_alloc | apply pw_below_drewN | apply below_drew1) | exact HB.out)) hb); clear HB; have HO104 := n0_; have HB := n1_; clear n0_ n1_; clear hb ho5))
    go_loopg [4, 5] k (fun kq v4 v5 w' => ∃ (x4_1 : List Int) (x5_1 : ByteArray), v5 = .string x5_1 ∧ Aside0 (spec_MapTypes.l0 kq x4_1 x5_1 = some (r1, r2)) ∧ Aside0 (kq ≤ k) ∧ Aside0 (Kd.R (Kd.int .i64) 2 w' w.heap.size (fun _ => True) v4 x4_1) ∧ Aside0 (Below w.heap.size w w'))
    case atStart => exact ⟨(y102), (a0), (by first | rfl | (simp; done) | (simp [*]; done)), H', ⟨Nat.le_refl _⟩, ⟨by (with_reducible repeat (first | apply Kd.R_alloc | apply Kd.R_drewN | apply Kd.R_drew)); exact HO104.out⟩, ⟨by repeat (first | (with_reducible first | exact HB.out | apply below_alloc | apply pw_below_drewN | apply below_drew1) | exact HB.out)⟩⟩
    case round =>
      clear H'
      try clear c2
      try clear p2
      try clear c3
      try clear c5
      obtain ⟨x4_1, x5_1, rfl, HA, HK1, HO_4, HB⟩ := hrel
      cases gk with
      | zero => exact absurd HA.out (by simp [spec_MapTypes.l0])
      | succ k1 =>
        have H := HA.out
        clear HA
        simp only [spec_MapTypes.l0] at H
        by_cases c6 : x5_1.toList = ([] : List UInt8)
        · rw [if_pos c6] at H
          have c6b0 : (x5_1.toList == ([] : List UInt8)) = true := beq_iff_eq.mpr c6
          have c6b1 : (x5_1.toList != ([] : List UInt8)) = false := bne_eq_false_iff_eq.mpr c6
          clear c6
          simp only [Option.some.injEq, Prod.mk.injEq] at H
          obtain ⟨rfl, rfl⟩ := H
          go_wp2
          go_ret2
          exact ⟨_, by first | rfl | (simp [errW_none, errW_some] <;> rfl) | (simp [*, errW_none, errW_some] <;> rfl), by (with_reducible repeat (first | apply Kd.R_alloc | apply Kd.R_drewN | apply Kd.R_drew)); exact HO_4.out, by repeat (first | (with_reducible first | exact HB.out | apply below_alloc | apply pw_below_drewN | apply below_drew1) | exact HB.out)⟩
        · rw [if_neg c6] at H
          have c6b0 : (x5_1.toList == ([] : List UInt8)) = false := beq_eq_false_iff_ne.mpr c6
          have c6b1 : (x5_1.toList != ([] : List UInt8)) = true := bne_iff_ne.mpr c6
          have H' := Aside0.mk H
          clear H
          go_wp2
          go_loopg [4, 6] k1 (fun kq v4 v6 w' => ∃ (x4_2 : List Int) (x6_2 : Int), v6 = .int .i64 x6_2 ∧ Aside0 (spec_MapTypes.l1 kq x4_2 x5_1 x6_2 = some (r1, r2)) ∧ Aside0 (kq ≤ k1) ∧ Aside0 (Kd.R (Kd.int .i64) 2 w' w.heap.size (fun _ => True) v4 x4_2) ∧ Aside0 (Below w.heap.size w w'))
          case atStart => exact ⟨(x4_1), (0), (by first | rfl | (simp; done) | (simp [*]; done)), H', ⟨Nat.le_refl _⟩, ⟨by (with_reducible repeat (first | apply Kd.R_alloc | apply Kd.R_drewN | apply Kd.R_drew)); exact HO_4.out⟩, ⟨by repeat (first | (with_reducible first | exact HB.out | apply below_alloc | apply pw_below_drewN | apply below_drew1) | exact HB.out)⟩⟩
          case round =>
            clear H'
            try clear c2
            try clear p2
            try clear c3
            try clear c5
            try clear c6
            try clear c6b0
            try clear c6b1
            try clear p2
            obtain ⟨x4_2, x6_2, rfl, HA, HK2, HO_4, HB⟩ := hrel
            cases gk with
            | zero => exact absurd HA.out (by simp [spec_MapTypes.l1])
            | succ k2 =>
              have H := HA.out
              clear HA
              simp only [spec_MapTypes.l1] at H
              by_cases c7 : 1 < (x5_1.size : Int)
              · rw [if_pos c7] at H
                have c7b0 : decide (1 < (x5_1.size : Int)) = true := decide_eq_true c7
                have c7b1 : decide (1 < x5_1.size) = true := decide_eq_true (by omega)
                clear c7
                by_cases c9 : x6_2 < (wrap64 (8 * (wrap64 (bt x5_1 1))))
                · rw [if_pos c9] at H
                  have c9b0 : decide (x6_2 < (wrap64 (8 * (wrap64 (bt x5_1 1))))) = true := decide_eq_true c9
                  clear c9
                  obtain ⟨ji10, hji10⟩ : ∃ j_ : Int, (wrap64 (2 + (wrap64 (Int.tdiv x6_2 8)))) = j_ := ⟨_, rfl⟩
                  replace H : (if 0 ≤ (ji10) then (if (ji10) < (x5_1.size : Int) then (if 0 ≤ (IntKind.u64.wrap (wrap64 (7 - (Int.tmod x6_2 8)))) then (if (Go.bits .and .u8 (shr .u8 (bt x5_1 (ji10)) (IntKind.u64.wrap (wrap64 (7 - (Int.tmod x6_2 8))))) 1) = 1 then (if 0 < (x5_1.size : Int) then (if x4_2.length < 17592186044416 then (spec_MapTypes.l1 k2 (x4_2 ++ [wrap64 ((wrap64 (256 * (wrap64 (bt x5_1 0)))) + x6_2)]) x5_1 (wrap64 (x6_2 + 1))) else (none)) else (none)) else (spec_MapTypes.l1 k2 x4_2 x5_1 (wrap64 (x6_2 + 1)))) else (none)) else (none)) else (none)) = some (r1, r2) := by first | (rw [hji10] at H; exact H) | (simp only [hji10] at H ⊢; exact H)
                  have hji10w : (IntKind.i64.wrap (2 + (wrap64 (Int.tdiv x6_2 8)))) = ji10 := (i64_w _).trans hji10
                  by_cases c11 : 0 ≤ (ji10)
                  · rw [if_pos c11] at H
                    have c11b0 : decide (0 ≤ (ji10)) = true := decide_eq_true c11
                    clear c11
                    by_cases c12 : (ji10) < (x5_1.size : Int)
                    · rw [if_pos c12] at H
                      have c12b0 : decide ((ji10) < (x5_1.size : Int)) = true := decide_eq_true c12
                      clear c12
                      obtain ⟨ji14, hji14⟩ : ∃ j_ : Int, (IntKind.u64.wrap (wrap64 (7 - (Int.tmod x6_2 8)))) = j_ := ⟨_, rfl⟩
                      replace H : (if 0 ≤ (ji14) then (if (Go.bits .and .u8 (shr .u8 (bt x5_1 (ji10)) (ji14)) 1) = 1 then (if 0 < (x5_1.size : Int) then (if x4_2.length < 17592186044416 then (spec_MapTypes.l1 k2 (x4_2 ++ [wrap64 ((wrap64 (256 * (wrap64 (bt x5_1 0)))) + x6_2)]) x5_1 (wrap64 (x6_2 + 1))) else (none)) else (none)) else (spec_MapTypes.l1 k2 x4_2 x5_1 (wrap64 (x6_2 + 1)))) else (none)) = some (r1, r2) := by first | (rw [hji14] at H; exact H) | (simp only [hji14] at H ⊢; exact H)
                      by_cases c15 : 0 ≤ (ji14)
                      · rw [if_pos c15] at H
                        have c15b0 := eq_true c15
                        have c15b1 : decide (0 ≤ (ji14)) = true := decide_eq_true c15
                        clear c15
                        obtain ⟨ji16, hji16⟩ : ∃ j_ : Int, (shr .u8 (bt x5_1 (ji10)) (ji14)) = j_ := ⟨_, rfl⟩
                        replace H : (if (Go.bits .and .u8 (ji16) 1) = 1 then (if 0 < (x5_1.size : Int) then (if x4_2.length < 17592186044416 then (spec_MapTypes.l1 k2 (x4_2 ++ [wrap64 ((wrap64 (256 * (wrap64 (bt x5_1 0)))) + x6_2)]) x5_1 (wrap64 (x6_2 + 1))) else (none)) else (none)) else (spec_MapTypes.l1 k2 x4_2 x5_1 (wrap64 (x6_2 + 1)))) = some (r1, r2) := by first | (rw [hji16] at H; exact H) | (simp only [hji16] at H ⊢; exact H)
                        have hji16_ : ((bt x5_1 (ji10)) / 2 ^ min (ji14).toNat 8) = ji16 := hji16
                        have hji16z : (ji14) ≤ 8 → ((bt x5_1 (ji10)) / 2 ^ (ji14).toNat) = ji16 := shr_small hji16
                        by_cases c17 : (Go.bits .and .u8 (ji16) 1) = 1
                        · rw [if_pos c17] at H
                          have c17b0 : ((Go.bits .and .u8 (ji16) 1) == 1) = true := beq_iff_eq.mpr c17
                          have c17b1 : ((Go.bits .and .u8 (ji16) 1) != 1) = false := bne_eq_false_iff_eq.mpr c17
                          clear c17
                          by_cases c18 : 0 < (x5_1.size : Int)
                          · rw [if_pos c18] at H
                            have c18b0 : decide (0 < (x5_1.size : Int)) = true := decide_eq_true c18
                            have c18b1 : decide (0 < x5_1.size) = true := decide_eq_true (by omega)
                            clear c18
                            by_cases c20 : x4_2.length < 17592186044416
                            · rw [if_pos c20] at H
                              have LMc20 := Aside0.mk c20
                              clear c20
                              obtain ⟨y105, hy105⟩ : ∃ y_ : List Int, y_ = (x4_2 ++ [wrap64 ((wrap64 (256 * (wrap64 (bt x5_1 0)))) + x6_2)]) := ⟨_, rfl⟩
                              replace H : (spec_MapTypes.l1 k2 y105 x5_1 (wrap64 (x6_2 + 1))) = some (r1, r2) := by first | (rw [hy105]; with_reducible exact H) | (have H2_ := (Option.bind_some _ _).symm.trans H; rw [hy105]; with_reducible exact H2_) | (have H2_ := (Option.bind_some _ _).symm.trans H; with_reducible exact H2_) | with_reducible exact H | (rw [hy105]; exact H) | exact H
                              have Ny105 := Aside0.mk hy105
                              clear hy105
                              have H' := Aside0.mk H
                              clear H
                              have p8 : 0 ≤ (1 : Int) := (by omega)
                              have q8 : 1 < x5_1.size := (by have : (1 : Int) < (x5_1.size : Int) := of_decide_eq_true (by first | (with_reducible assumption) | assumption); omega)
                              have hx8 : ∀ h : 1 < x5_1.size, ((x5_1[1]'h).toNat : Int) = bt x5_1 1 := bt_at x5_1 1
                              clear p8
                              have qi8 : (1 < (x5_1.size : Int)) = True := eq_true (of_decide_eq_true (by first | (with_reducible assumption) | assumption))
                              replace q8 := eq_true q8
                              have p13 : 0 ≤ ((ji10) : Int) := of_decide_eq_true (by first | (with_reducible assumption) | assumption)
                              have q13 : (ji10) < (x5_1.size : Int) := of_decide_eq_true (by first | (with_reducible assumption) | assumption)
                              have hx13 := bt_at x5_1 (ji10)
                              replace p13 := eq_true p13
                              replace q13 := eq_true q13
                              have p19 : 0 ≤ (0 : Int) := (by omega)
                              have q19 : 0 < x5_1.size := (by have : (0 : Int) < (x5_1.size : Int) := of_decide_eq_true (by first | (with_reducible assumption) | assumption); omega)
                              have hx19 : ∀ h : 0 < x5_1.size, ((x5_1[0]'h).toNat : Int) = bt x5_1 0 := bt_at x5_1 0
                              clear p19
                              have qi19 : (0 < (x5_1.size : Int)) = True := eq_true (of_decide_eq_true (by first | (with_reducible assumption) | assumption))
                              replace q19 := eq_true q19
                              go_wp2_with (first | ((with_reducible refine gate_builtin (b := .append) (xs := #[.tmp 40, .tmp 47]) rfl ?_); at_builtin; refine Kd.R_append (Kd.int .i64) (w0 := w) w.heap.size rfl (.tmp 40) (.tmp 47) 29 2 (.int .i64 0) 8 rfl Try.underlying29 info2 rfl (by decide) (by omega) u4 x4_2 (wrap64 ((wrap64 (256 * (wrap64 (bt x5_1 0)))) + x6_2)) [.int .i64 (wrap64 ((wrap64 (256 * (wrap64 (bt x5_1 0)))) + x6_2))] (fun _ => True) (fun _ => False) rfl rfl ?aP (fun _ hk => hk.elim) ?aF ?aO ?aB ?aS ?aL ?_; (case aP => exact rfl); (case aB => exact (by repeat (first | (with_reducible first | exact HB.out | apply below_alloc | apply pw_below_drewN | apply below_drew1) | exact HB.out))); (case aF => exact (fun _ _ => trivial)); (case aO => exact (by (with_reducible repeat (first | apply Kd.R_alloc | apply Kd.R_drewN | apply Kd.R_drew)); exact HO_4.out)); (case aS => exact (below_size (by repeat (first | (with_reducible first | exact HB.out | apply below_alloc | apply pw_below_drewN | apply below_drew1) | exact HB.out)))); (case aL => have := LMc20.out; omega); intro v106 w21 ho hb hg hat; rw [← Ny105.out] at ho; have n0_ := Aside0.mk (hb); have n1_ := Aside0.mk (ho); clear HB; clear HO_4; have HB := n0_; have HO107 := n1_; clear n0_ n1_; clear ho hb hg hat))
                              go_roundg k2
                              case measure => have := HK1.out; have := HK2.out; omega
                              case rel => exact ⟨(y105), (wrap64 (x6_2 + 1)), (by first | rfl | (simp; done) | (simp [*]; done)), H', ⟨by have := HK1.out; have := HK2.out; omega⟩, ⟨by (with_reducible repeat (first | apply Kd.R_alloc | apply Kd.R_drewN | apply Kd.R_drew)); exact HO107.out⟩, ⟨by repeat (first | (with_reducible first | exact HB.out | apply below_alloc | apply pw_below_drewN | apply below_drew1) | exact HB.out)⟩⟩
                            · rw [if_neg c20] at H
                              exact absurd H (by simp)
                          · rw [if_neg c18] at H
                            exact absurd H (by simp)
                        · rw [if_neg c17] at H
                          have c17b0 : ((Go.bits .and .u8 (ji16) 1) == 1) = false := beq_eq_false_iff_ne.mpr c17
                          have c17b1 : ((Go.bits .and .u8 (ji16) 1) != 1) = true := bne_iff_ne.mpr c17
                          have H' := Aside0.mk H
                          clear H
                          have p8 : 0 ≤ (1 : Int) := (by omega)
                          have q8 : 1 < x5_1.size := (by have : (1 : Int) < (x5_1.size : Int) := of_decide_eq_true (by first | (with_reducible assumption) | assumption); omega)
                          have hx8 : ∀ h : 1 < x5_1.size, ((x5_1[1]'h).toNat : Int) = bt x5_1 1 := bt_at x5_1 1
                          clear p8
                          have qi8 : (1 < (x5_1.size : Int)) = True := eq_true (of_decide_eq_true (by first | (with_reducible assumption) | assumption))
                          replace q8 := eq_true q8
                          have p13 : 0 ≤ ((ji10) : Int) := of_decide_eq_true (by first | (with_reducible assumption) | assumption)
                          have q13 : (ji10) < (x5_1.size : Int) := of_decide_eq_true (by first | (with_reducible assumption) | assumption)
                          have hx13 := bt_at x5_1 (ji10)
                          replace p13 := eq_true p13
                          replace q13 := eq_true q13
                          go_wp2
                          go_roundg k2
                          case measure => have := HK1.out; have := HK2.out; omega
                          case rel => exact ⟨(x4_2), (wrap64 (x6_2 + 1)), (by first | rfl | (simp; done) | (simp [*]; done)), H', ⟨by have := HK1.out; have := HK2.out; omega⟩, ⟨by (with_reducible repeat (first | apply Kd.R_alloc | apply Kd.R_drewN | apply Kd.R_drew)); exact HO_4.out⟩, ⟨by repeat (first | (with_reducible first | exact HB.out | apply below_alloc | apply pw_below_drewN | apply below_drew1) | exact HB.out)⟩⟩
                      · rw [if_neg c15] at H
                        exact absurd H (by simp)
                    · rw [if_neg c12] at H
                      exact absurd H (by simp)
                  · rw [if_neg c11] at H
                    exact absurd H (by simp)
                · rw [if_neg c9] at H
                  have c9b0 : decide (x6_2 < (wrap64 (8 * (wrap64 (bt x5_1 1))))) = false := decide_eq_false c9
                  clear c9
                  obtain ⟨ji23, hji23⟩ : ∃ j_ : Int, (wrap64 ((wrap64 (bt x5_1 1)) + 2)) = j_ := ⟨_, rfl⟩
                  replace H : (if 0 ≤ (ji23) then (if (ji23) ≤ (x5_1.size : Int) then (spec_MapTypes.l0 k2 x4_2 (x5_1.extract ((ji23) : Int).toNat x5_1.size)) else (none)) else (none)) = some (r1, r2) := by first | (rw [hji23] at H; exact H) | (simp only [hji23] at H ⊢; exact H)
                  have hji23w : (IntKind.i64.wrap ((wrap64 (bt x5_1 1)) + 2)) = ji23 := (i64_w _).trans hji23
                  by_cases c24 : 0 ≤ (ji23)
                  · rw [if_pos c24] at H
                    have c24b0 := eq_true c24
                    have c24b1 : decide (0 ≤ (ji23)) = true := decide_eq_true c24
                    clear c24
                    by_cases c25 : (ji23) ≤ (x5_1.size : Int)
                    · rw [if_pos c25] at H
                      have c25b0 := eq_true c25
                      have c25b1 : decide ((ji23) ≤ (x5_1.size : Int)) = true := decide_eq_true c25
                      clear c25
                      have H' := Aside0.mk H
                      clear H
                      have p8 : 0 ≤ (1 : Int) := (by omega)
                      have q8 : 1 < x5_1.size := (by have : (1 : Int) < (x5_1.size : Int) := of_decide_eq_true (by first | (with_reducible assumption) | assumption); omega)
                      have hx8 : ∀ h : 1 < x5_1.size, ((x5_1[1]'h).toNat : Int) = bt x5_1 1 := bt_at x5_1 1
                      clear p8
                      have qi8 : (1 < (x5_1.size : Int)) = True := eq_true (of_decide_eq_true (by first | (with_reducible assumption) | assumption))
                      replace q8 := eq_true q8
                      have p22 : 0 ≤ (1 : Int) := (by omega)
                      have q22 : 1 < x5_1.size := (by have : (1 : Int) < (x5_1.size : Int) := of_decide_eq_true (by first | (with_reducible assumption) | assumption); omega)
                      have hx22 : ∀ h : 1 < x5_1.size, ((x5_1[1]'h).toNat : Int) = bt x5_1 1 := bt_at x5_1 1
                      clear p22
                      have qi22 : (1 < (x5_1.size : Int)) = True := eq_true (of_decide_eq_true (by first | (with_reducible assumption) | assumption))
                      replace q22 := eq_true q22
                      go_wp2
                      go_roundg k2
                      case measure => have := HK1.out; have := HK2.out; omega
                      case rel => exact ⟨(x4_2), (x5_1.extract ((ji23) : Int).toNat x5_1.size), (by first | rfl | (simp; done) | (simp only [← hji23] <;> (first | rfl | simp)) | (simp [*]; done)), H', ⟨by have := HK1.out; have := HK2.out; omega⟩, ⟨by (with_reducible repeat (first | apply Kd.R_alloc | apply Kd.R_drewN | apply Kd.R_drew)); exact HO_4.out⟩, ⟨by repeat (first | (with_reducible first | exact HB.out | apply below_alloc | apply pw_below_drewN | apply below_drew1) | exact HB.out)⟩⟩
                    · rw [if_neg c25] at H
                      exact absurd H (by simp)
                  · rw [if_neg c24] at H
                    exact absurd H (by simp)
              · rw [if_neg c7] at H
                exact absurd H (by simp)
  · replace c3 := Bool.eq_false_iff.mpr c3
    subst c3
    have H1 : (some (([] : List Int), 7)) = some (r1, r2) := by rw [if_neg (show ¬ (false = true) by decide)] at H; exact H
    clear H
    have H := H1
    clear H1
    simp only [Option.some.injEq, Prod.mk.injEq] at H
    obtain ⟨rfl, rfl⟩ := H
    go_enter Try.func23, Try.ntmps23
    go_wp2_with (first | ((with_reducible refine gate_callee (f := 52) rfl ?_); refine goesL_ (some 8) rfl rfl Try.func52 (by kernel_rfl) rfl #[.string a0] rfl (by (try simp only [List.map_toArray, List.map_cons, List.map_nil]); first | done | rfl | (simp only [List.length_drop, List.length_take]; rfl)) ?_; (with_reducible refine (spec_l02Map.calls k a0 false _ A2.out).mono ?_); rintro e w' ⟨rfl, ⟨nd, rfl⟩⟩; refine ⟨_, rfl, ?_⟩))
    go_ret2
    exact ⟨_, by first | rfl | (simp [errW_none, errW_some] <;> rfl) | (simp [*, errW_none, errW_some] <;> rfl), by first | exact Kd.R_nil _ _ _ _ _ | exact Kd.N_nil _ _ _ _ _ | exact Kd.V_nil _ _ _ _ _ | exact Kd.Q_nil _ _ _ _ _ | exact Kd.S_nil _ _ _ _ _, by repeat (first | (with_reducible first | exact HB.out | apply below_alloc | apply pw_below_drewN | apply below_drew1) | exact HB.out)⟩

end Go.Proofs.Ytelmbgholdnaaaa.PFnExactMapTypes
