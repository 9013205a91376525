-- Written by a program of this session (wip/myprint.py, over the kit's print). Not trusted: Lean checks it.
import Derived.Test.YtpbmnokmpihnjaaFx0
import Derived.Test.YtpbmnokmpihnjaaFx1037
import Derived.Test.YtpbmnokmpihnjaaFx1039
import Derived.Test.YtpbmnokmpihnjaaFx1043
namespace Go.Proofs.Ytpbmnokmpihnjaa.F
open Go Go.Shelf Go.RowKit Go.Proofs.YtpbmnokmpihnjaaW.PrintWords Go.Proofs.YtpbmnokmpihnjaaW.PrintLast Go.Proofs.YtpbmnokmpihnjaaW.PrintMore
attribute [local go_sem] max2_int min2_int max_two min_two max_three min_three max_four min_four   -- for this text's walks alone
set_option linter.unusedVariables false
set_option linter.unusedSimpArgs false

/-! ### impl_ReadName: function 17 -/
mutual
def impl_ReadName.j0 : Nat → ByteArray → ByteArray → List ByteArray → Bool → Option (ByteArray × Int)
  | 0, _, _, _, _ => none
  | k + 1, x0, x1, x6, x27 => if x27 = true then (some ((⟨#[]⟩ : ByteArray), 32)) else (if (x0.size : Int) > 1100 then (some ((⟨#[]⟩ : ByteArray), 3)) else (if x0.toList = ([] : List UInt8) then (some ((⟨#[]⟩ : ByteArray), 1)) else (if x0.toList = ([64] : List UInt8) then (if x1.toList = ([] : List UInt8) then (some ((⟨#[]⟩ : ByteArray), 5)) else (some (x1, 0))) else (if x0.toList = ([46] : List UInt8) then (some ((⟨#[0]⟩ : ByteArray), 0)) else (impl_ReadName.l0 k x0 x1 x6 ([] : List ByteArray) ([] : List Int) false 0)))))
def impl_ReadName.l0 : Nat → ByteArray → ByteArray → List ByteArray → List ByteArray → List Int → Bool → Int → Option (ByteArray × Int)
  | 0, _, _, _, _, _, _, _ => none
  | k + 1, x0, x1, x6, x8, x9, x10, x11 => if x11 < (x0.size : Int) then (if 0 ≤ x11 then (if (bt x0 x11) = 92 then ((impl_escaped.f k x0 x11).bind fun bt105 => (if bt105.2.2 = true then (if x9.length < 140737488355328 then (impl_ReadName.l0 k x0 x1 x6 x8 (x9 ++ [bt105.1]) false bt105.2.1) else (none)) else (some ((⟨#[]⟩ : ByteArray), 4)))) else (if (bt x0 x11) = 46 then (if (x9.length : Int) < 1 then (some ((⟨#[]⟩ : ByteArray), 2)) else (if (x9.length : Int) > 63 then (some ((⟨#[]⟩ : ByteArray), 2)) else (if x8.length < 8796093022208 then (impl_ReadName.l0 k x0 x1 x6 (x8 ++ [strOfNums x9]) ([] : List Int) true (wrap64 (x11 + 1))) else (none)))) else (if x9.length < 140737488355328 then (impl_ReadName.l0 k x0 x1 x6 x8 (x9 ++ [bt x0 x11]) false (wrap64 (x11 + 1))) else (none)))) else (none)) else (if x10 = true then ((impl_joined.f x8).bind fun t117 => (if (t117.size : Int) > 255 then (some ((⟨#[]⟩ : ByteArray), 3)) else (some (t117, 0)))) else (if (x9.length : Int) < 1 then (impl_ReadName.j2 k x1 x6 x8 x9 true) else (impl_ReadName.j2 k x1 x6 x8 x9 (decide ((x9.length : Int) > 63)))))
def impl_ReadName.j2 : Nat → ByteArray → List ByteArray → List ByteArray → List Int → Bool → Option (ByteArray × Int)
  | 0, _, _, _, _, _ => none
  | k + 1, x1, x6, x8, x9, x95 => if x95 = true then (some ((⟨#[]⟩ : ByteArray), 2)) else (if x8.length < 8796093022208 then ((some (x8 ++ [strOfNums x9] : List ByteArray)).bind fun y118 => (if x1.toList = ([] : List UInt8) then (some ((⟨#[]⟩ : ByteArray), 5)) else (if y118.length + x6.length < 8796093022208 then ((impl_joined.f (y118 ++ x6)).bind fun t124 => (if (t124.size : Int) > 255 then (some ((⟨#[]⟩ : ByteArray), 3)) else (some (t124, 0)))) else (none)))) else (none))
end
def impl_ReadName.f (k : Nat) (a0 : ByteArray) (a1 : ByteArray) : Option (ByteArray × Int) := (impl_labelsOf.f k a1).bind fun bt101 => (if a1.toList = ([] : List UInt8) then (impl_ReadName.j0 k a0 a1 bt101.1 false) else (impl_ReadName.j0 k a0 a1 bt101.1 (!bt101.2)))
theorem impl_ReadName.mono_l : ∀ k, (∀ y0 y1 y2 y3, LeO (impl_ReadName.j0 k y0 y1 y2 y3) (impl_ReadName.j0 (k + 1) y0 y1 y2 y3)) ∧ (∀ y0 y1 y2 y3 y4 y5 y6, LeO (impl_ReadName.l0 k y0 y1 y2 y3 y4 y5 y6) (impl_ReadName.l0 (k + 1) y0 y1 y2 y3 y4 y5 y6)) ∧ (∀ y0 y1 y2 y3 y4, LeO (impl_ReadName.j2 k y0 y1 y2 y3 y4) (impl_ReadName.j2 (k + 1) y0 y1 y2 y3 y4))
  | 0 => ⟨fun _ _ _ _ r h => by simp [impl_ReadName.j0] at h, fun _ _ _ _ _ _ _ r h => by simp [impl_ReadName.l0] at h, fun _ _ _ _ _ r h => by simp [impl_ReadName.j2] at h⟩
  | k + 1 => by
    obtain ⟨ih0, ih1, ih2⟩ := impl_ReadName.mono_l k
    refine ⟨?_, ?_, ?_⟩
    · intro y0 y1 y2 y3
      unfold impl_ReadName.j0
      repeat' first
      | (with_reducible exact ih0 _ _ _ _)
      | (with_reducible exact ih1 _ _ _ _ _ _ _)
      | (with_reducible exact ih2 _ _ _ _ _)
      | (with_reducible exact impl_escaped.mono _ _ _)
      | (with_reducible exact impl_labelsOf.mono _ _)
      | (with_reducible exact LeO.refl _)
      | (with_reducible exact LeO.none _)
      | (with_reducible refine LeO.ite ?_ ?_)
      | (with_reducible refine LeO.bind ?_ (fun _ => ?_))
      | exact ih0 _ _ _ _
      | exact ih1 _ _ _ _ _ _ _
      | exact ih2 _ _ _ _ _
      | exact impl_escaped.mono _ _ _
      | exact impl_labelsOf.mono _ _
      | exact LeO.none _
      | refine LeO.ite ?_ ?_
      | refine LeO.bind ?_ (fun _ => ?_)
    · intro y0 y1 y2 y3 y4 y5 y6
      unfold impl_ReadName.l0
      repeat' first
      | (with_reducible exact ih0 _ _ _ _)
      | (with_reducible exact ih1 _ _ _ _ _ _ _)
      | (with_reducible exact ih2 _ _ _ _ _)
      | (with_reducible exact impl_escaped.mono _ _ _)
      | (with_reducible exact impl_labelsOf.mono _ _)
      | (with_reducible exact LeO.refl _)
      | (with_reducible exact LeO.none _)
      | (with_reducible refine LeO.ite ?_ ?_)
      | (with_reducible refine LeO.bind ?_ (fun _ => ?_))
      | exact ih0 _ _ _ _
      | exact ih1 _ _ _ _ _ _ _
      | exact ih2 _ _ _ _ _
      | exact impl_escaped.mono _ _ _
      | exact impl_labelsOf.mono _ _
      | exact LeO.none _
      | refine LeO.ite ?_ ?_
      | refine LeO.bind ?_ (fun _ => ?_)
    · intro y0 y1 y2 y3 y4
      unfold impl_ReadName.j2
      repeat' first
      | (with_reducible exact ih0 _ _ _ _)
      | (with_reducible exact ih1 _ _ _ _ _ _ _)
      | (with_reducible exact ih2 _ _ _ _ _)
      | (with_reducible exact impl_escaped.mono _ _ _)
      | (with_reducible exact impl_labelsOf.mono _ _)
      | (with_reducible exact LeO.refl _)
      | (with_reducible exact LeO.none _)
      | (with_reducible refine LeO.ite ?_ ?_)
      | (with_reducible refine LeO.bind ?_ (fun _ => ?_))
      | exact ih0 _ _ _ _
      | exact ih1 _ _ _ _ _ _ _
      | exact ih2 _ _ _ _ _
      | exact impl_escaped.mono _ _ _
      | exact impl_labelsOf.mono _ _
      | exact LeO.none _
      | refine LeO.ite ?_ ?_
      | refine LeO.bind ?_ (fun _ => ?_)
theorem impl_ReadName.mono : ∀ a0 a1 k, LeO (impl_ReadName.f k a0 a1) (impl_ReadName.f (k + 1) a0 a1) := by
  intro a0 a1 k
  obtain ⟨ih0, ih1, ih2⟩ := impl_ReadName.mono_l k
  unfold impl_ReadName.f
  repeat' first
      | (with_reducible exact ih0 _ _ _ _)
      | (with_reducible exact ih1 _ _ _ _ _ _ _)
      | (with_reducible exact ih2 _ _ _ _ _)
      | (with_reducible exact impl_escaped.mono _ _ _)
      | (with_reducible exact impl_labelsOf.mono _ _)
      | (with_reducible exact LeO.refl _)
      | (with_reducible exact LeO.none _)
      | (with_reducible refine LeO.ite ?_ ?_)
      | (with_reducible refine LeO.bind ?_ (fun _ => ?_))
      | exact ih0 _ _ _ _
      | exact ih1 _ _ _ _ _ _ _
      | exact ih2 _ _ _ _ _
      | exact impl_escaped.mono _ _ _
      | exact impl_labelsOf.mono _ _
      | exact LeO.none _
      | refine LeO.ite ?_ ?_
      | refine LeO.bind ?_ (fun _ => ?_)
set_option maxHeartbeats 8000000 in
set_option maxRecDepth 100000 in
theorem impl_ReadName.calls (k : Nat) (a0 : ByteArray) (a1 : ByteArray) (r1 : ByteArray) (r2 : Int) (w : World) (h : impl_ReadName.f k a0 a1 = some (r1, r2)) :
    Calls Try.prog 17 #[.string a0, .string a1] w fun e w' => e = .returned (.tuple #[.string r1, .int .i64 r2]) ∧ Below w.heap.size w w' := by
  have HB := Aside0.mk (Below.refl w.heap.size w)
  have H : ((impl_labelsOf.f k a1).bind fun bt101 => (if a1.toList = ([] : List UInt8) then (impl_ReadName.j0 k a0 a1 bt101.1 false) else (impl_ReadName.j0 k a0 a1 bt101.1 (!bt101.2)))) = some (r1, r2) := h
  clear h
  replace H := Option.bind_eq_some_iff.mp H
  obtain ⟨⟨t101, t102⟩, A30, H⟩ := H
  replace H : (if a1.toList = ([] : List UInt8) then (impl_ReadName.j0 k a0 a1 t101 false) else (impl_ReadName.j0 k a0 a1 t101 (!t102))) = some (r1, r2) := H
  have A3 := Aside0.mk A30
  clear A30
  have HC4 := Aside0.mk H
  clear H
  go_enter Try.func17, Try.ntmps17
  go_upto_region 2 with (first | ((with_reducible refine gate_callee (f := 37) rfl ?_); refine goesL_ (some 19) rfl rfl Try.func37 (by kernel_rfl) rfl #[.string a1] rfl (by (try simp only [List.map_toArray, List.map_cons, List.map_nil]); first | done | rfl | (simp only [List.length_drop, List.length_take]; rfl)) ?_; (with_reducible refine (impl_labelsOf.calls k a1 t101 t102 _ A3.out).mono ?_); rintro e w5 ⟨v103, rfl, ho0, hb⟩; refine ⟨_, rfl, ?_⟩; have n0_ := Aside0.mk (Kd.R_lower ho0 (below_size (by repeat (first | (with_reducible first | exact HB.out | apply below_alloc | apply pw_below_drewN | apply below_drew1) | exact HB.out)))); have n1_ := Aside0.mk (below_step (by repeat (first | (with_reducible first | exact HB.out | apply below_alloc | apply pw_below_drewN | apply below_drew1) | exact HB.out)) hb); clear HB; have HO104 := n0_; have HB := n1_; clear n0_ n1_; (try clear hb); (try clear hb2); (try clear hk); (try clear hi); (try clear ho0)))
  (try simp only [Act.put, List.setIfInBounds_toArray, List.set_cons_zero, List.set_cons_succ])
  go_cut [27] (fun v27 wc => ∃ (kq : Nat) (x27_3 : Bool), v27 = .bool x27_3 ∧ Aside0 (impl_ReadName.j0 kq a0 a1 t101 x27_3 = some (r1, r2)) ∧ Aside0 (kq ≤ k) ∧ Aside0 (Kd.R Kd.string 9 wc w.heap.size (fun _ => True) v103 t101) ∧ Aside0 (Below w.heap.size w wc))
  case first =>
    have H := HC4.out
    clear HC4
    by_cases c6 : a1.toList = ([] : List UInt8)
    · rw [if_pos c6] at H
      have c6b0 : (a1.toList == ([] : List UInt8)) = true := beq_iff_eq.mpr c6
      have c6b1 : (a1.toList != ([] : List UInt8)) = false := bne_eq_false_iff_eq.mpr c6
      clear c6
      (first | rw [c6b0] | (simp only [i64_w, i32_w]; rw [c6b0]) | skip)
      have H' := Aside0.mk H
      clear H
      go_wp2
      go_meet
      case rel => exact ⟨_, (false), (by first | rfl | (simp; done) | (simp [*]; done)), H', ⟨by first | omega | exact Nat.le_refl _⟩, ⟨by (with_reducible repeat (first | apply Kd.R_alloc | apply Kd.R_drewN | apply Kd.R_drew)); exact HO104.out⟩, ⟨by repeat (first | (with_reducible first | exact HB.out | apply below_alloc | apply pw_below_drewN | apply below_drew1) | exact HB.out)⟩⟩
    · rw [if_neg c6] at H
      have c6b0 : (a1.toList == ([] : List UInt8)) = false := beq_eq_false_iff_ne.mpr c6
      have c6b1 : (a1.toList != ([] : List UInt8)) = true := bne_iff_ne.mpr c6
      (first | rw [c6b0] | (simp only [i64_w, i32_w]; rw [c6b0]) | skip)
      have H' := Aside0.mk H
      clear H
      go_wp2
      go_meet
      case rel => exact ⟨_, (!t102), (by first | rfl | (simp; done) | (simp [*]; done)), H', ⟨by first | omega | exact Nat.le_refl _⟩, ⟨by (with_reducible repeat (first | apply Kd.R_alloc | apply Kd.R_drewN | apply Kd.R_drew)); exact HO104.out⟩, ⟨by repeat (first | (with_reducible first | exact HB.out | apply below_alloc | apply pw_below_drewN | apply below_drew1) | exact HB.out)⟩⟩
  case rest =>
    clear HC4
    try clear c1
    try clear p2
    try clear c3
    try clear c6
    try clear c6b0
    try clear c6b1
    obtain ⟨kq, x27_3, rfl, HA, HJ3, HO_6, HB⟩ := hcut
    cases kq with
    | zero => exact absurd HA.out (by simp [impl_ReadName.j0])
    | succ kj3 =>
      have H := HA.out
      clear HA
      simp only [impl_ReadName.j0] at H
      by_cases c7 : x27_3 = true
      · subst c7
        have H1 : (some ((⟨#[]⟩ : ByteArray), 32)) = some (r1, r2) := by rw [if_pos rfl] at H; exact H
        clear H
        have H := H1
        clear H1
        simp only [Option.some.injEq, Prod.mk.injEq] at H
        obtain ⟨rfl, rfl⟩ := H
        go_wp2
        go_ret2
        exact ⟨by first | rfl | (simp [errW_none, errW_some] <;> rfl) | (simp [*, errW_none, errW_some] <;> rfl), by repeat (first | (with_reducible first | exact HB.out | apply below_alloc | apply pw_below_drewN | apply below_drew1) | exact HB.out)⟩
      · replace c7 := Bool.eq_false_iff.mpr c7
        subst c7
        have H1 : (if (a0.size : Int) > 1100 then (some ((⟨#[]⟩ : ByteArray), 3)) else (if a0.toList = ([] : List UInt8) then (some ((⟨#[]⟩ : ByteArray), 1)) else (if a0.toList = ([64] : List UInt8) then (if a1.toList = ([] : List UInt8) then (some ((⟨#[]⟩ : ByteArray), 5)) else (some (a1, 0))) else (if a0.toList = ([46] : List UInt8) then (some ((⟨#[0]⟩ : ByteArray), 0)) else (impl_ReadName.l0 kj3 a0 a1 t101 ([] : List ByteArray) ([] : List Int) false 0))))) = some (r1, r2) := by rw [if_neg (show ¬ (false = true) by decide)] at H; exact H
        clear H
        have H := H1
        clear H1
        by_cases c8 : (a0.size : Int) > 1100
        · rw [if_pos c8] at H
          have c8b0 : decide (1100 < (a0.size : Int)) = true := decide_eq_true c8
          have c8b1 : decide (1100 < a0.size) = true := decide_eq_true (by omega)
          clear c8
          simp only [Option.some.injEq, Prod.mk.injEq] at H
          obtain ⟨rfl, rfl⟩ := H
          go_wp2
          go_ret2
          exact ⟨by first | rfl | (simp [errW_none, errW_some] <;> rfl) | (simp [*, errW_none, errW_some] <;> rfl), by repeat (first | (with_reducible first | exact HB.out | apply below_alloc | apply pw_below_drewN | apply below_drew1) | exact HB.out)⟩
        · rw [if_neg c8] at H
          have c8b0 : decide (1100 < (a0.size : Int)) = false := decide_eq_false c8
          have c8b1 : decide (1100 < a0.size) = false := decide_eq_false (by omega)
          clear c8
          by_cases c9 : a0.toList = ([] : List UInt8)
          · rw [if_pos c9] at H
            have c9b0 : (a0.toList == ([] : List UInt8)) = true := beq_iff_eq.mpr c9
            have c9b1 : (a0.toList != ([] : List UInt8)) = false := bne_eq_false_iff_eq.mpr c9
            clear c9
            simp only [Option.some.injEq, Prod.mk.injEq] at H
            obtain ⟨rfl, rfl⟩ := H
            go_wp2
            go_ret2
            exact ⟨by first | rfl | (simp [errW_none, errW_some] <;> rfl) | (simp [*, errW_none, errW_some] <;> rfl), by repeat (first | (with_reducible first | exact HB.out | apply below_alloc | apply pw_below_drewN | apply below_drew1) | exact HB.out)⟩
          · rw [if_neg c9] at H
            have c9b0 : (a0.toList == ([] : List UInt8)) = false := beq_eq_false_iff_ne.mpr c9
            have c9b1 : (a0.toList != ([] : List UInt8)) = true := bne_iff_ne.mpr c9
            by_cases c10 : a0.toList = ([64] : List UInt8)
            · rw [if_pos c10] at H
              have c10b0 : (a0.toList == ([64] : List UInt8)) = true := beq_iff_eq.mpr c10
              have c10b1 : (a0.toList != ([64] : List UInt8)) = false := bne_eq_false_iff_eq.mpr c10
              clear c10
              by_cases c11 : a1.toList = ([] : List UInt8)
              · rw [if_pos c11] at H
                have c11b0 : (a1.toList == ([] : List UInt8)) = true := beq_iff_eq.mpr c11
                have c11b1 : (a1.toList != ([] : List UInt8)) = false := bne_eq_false_iff_eq.mpr c11
                clear c11
                simp only [Option.some.injEq, Prod.mk.injEq] at H
                obtain ⟨rfl, rfl⟩ := H
                go_wp2
                go_ret2
                exact ⟨by first | rfl | (simp [errW_none, errW_some] <;> rfl) | (simp [*, errW_none, errW_some] <;> rfl), by repeat (first | (with_reducible first | exact HB.out | apply below_alloc | apply pw_below_drewN | apply below_drew1) | exact HB.out)⟩
              · rw [if_neg c11] at H
                have c11b0 : (a1.toList == ([] : List UInt8)) = false := beq_eq_false_iff_ne.mpr c11
                have c11b1 : (a1.toList != ([] : List UInt8)) = true := bne_iff_ne.mpr c11
                simp only [Option.some.injEq, Prod.mk.injEq] at H
                obtain ⟨rfl, rfl⟩ := H
                go_wp2
                go_ret2
                exact ⟨by first | rfl | (simp [errW_none, errW_some] <;> rfl) | (simp [*, errW_none, errW_some] <;> rfl), by repeat (first | (with_reducible first | exact HB.out | apply below_alloc | apply pw_below_drewN | apply below_drew1) | exact HB.out)⟩
            · rw [if_neg c10] at H
              have c10b0 : (a0.toList == ([64] : List UInt8)) = false := beq_eq_false_iff_ne.mpr c10
              have c10b1 : (a0.toList != ([64] : List UInt8)) = true := bne_iff_ne.mpr c10
              by_cases c12 : a0.toList = ([46] : List UInt8)
              · rw [if_pos c12] at H
                have c12b0 : (a0.toList == ([46] : List UInt8)) = true := beq_iff_eq.mpr c12
                have c12b1 : (a0.toList != ([46] : List UInt8)) = false := bne_eq_false_iff_eq.mpr c12
                clear c12
                simp only [Option.some.injEq, Prod.mk.injEq] at H
                obtain ⟨rfl, rfl⟩ := H
                go_wp2
                go_ret2
                exact ⟨by first | rfl | (simp [errW_none, errW_some] <;> rfl) | (simp [*, errW_none, errW_some] <;> rfl), by repeat (first | (with_reducible first | exact HB.out | apply below_alloc | apply pw_below_drewN | apply below_drew1) | exact HB.out)⟩
              · rw [if_neg c12] at H
                have c12b0 : (a0.toList == ([46] : List UInt8)) = false := beq_eq_false_iff_ne.mpr c12
                have c12b1 : (a0.toList != ([46] : List UInt8)) = true := bne_iff_ne.mpr c12
                have H' := Aside0.mk H
                clear H
                go_wp2
                go_loopg [8, 9, 10, 11] kj3 (fun kq v8 v9 v10 v11 w' => ∃ (x8_2 : List ByteArray) (x9_2 : List Int) (x10_2 : Bool) (x11_2 : Int), v10 = .bool x10_2 ∧ v11 = .int .i64 x11_2 ∧ Aside0 (impl_ReadName.l0 kq a0 a1 t101 x8_2 x9_2 x10_2 x11_2 = some (r1, r2)) ∧ Aside0 (kq ≤ kj3) ∧ Aside0 (Kd.R Kd.string 9 w' w.heap.size (fun k_ => some k_ ≠ (v8 : Value).ownBlock) v103 t101) ∧ Aside0 (Kd.R Kd.string 9 w' w.heap.size (fun k_ => some k_ ≠ (v103 : Value).ownBlock) v8 x8_2) ∧ Aside0 (Kd.R (Kd.int .u8) 5 w' w.heap.size (fun _ => True) v9 x9_2) ∧ Aside0 (Below w.heap.size w w'))
                case atStart => exact ⟨(([] : List ByteArray)), (([] : List Int)), (false), (0), (by first | rfl | (simp; done) | (simp [*]; done)), (by first | rfl | (simp; done) | (simp [*]; done)), H', ⟨Nat.le_refl _⟩, ⟨by (with_reducible repeat (first | apply Kd.R_alloc | apply Kd.R_drewN | apply Kd.R_drew)); exact Kd.R_mono HO_6.out (fun _ hk => (by simp [Value.ownBlock]))⟩, ⟨by first | exact Kd.R_nil _ _ _ _ _ | exact Kd.N_nil _ _ _ _ _ | exact Kd.V_nil _ _ _ _ _ | exact Kd.Q_nil _ _ _ _ _ | exact Kd.S_nil _ _ _ _ _⟩, ⟨by first | exact Kd.R_nil _ _ _ _ _ | exact Kd.N_nil _ _ _ _ _ | exact Kd.V_nil _ _ _ _ _ | exact Kd.Q_nil _ _ _ _ _ | exact Kd.S_nil _ _ _ _ _⟩, ⟨by repeat (first | (with_reducible first | exact HB.out | apply below_alloc | apply pw_below_drewN | apply below_drew1) | exact HB.out)⟩⟩
                case round =>
                  clear H'
                  try clear c1
                  try clear p2
                  try clear c3
                  try clear c6
                  try clear c6b0
                  try clear c6b1
                  try clear c7
                  try clear c8
                  try clear c8b0
                  try clear c8b1
                  try clear c9
                  try clear c9b0
                  try clear c9b1
                  try clear c10
                  try clear c10b0
                  try clear c10b1
                  try clear c11
                  try clear c11b0
                  try clear c11b1
                  try clear c12
                  try clear c12b0
                  try clear c12b1
                  try clear p2
                  obtain ⟨x8_2, x9_2, x10_2, x11_2, rfl, rfl, HA, HK2, HO_6, HO_8, HO_9, HB⟩ := hrel
                  cases gk with
                  | zero => exact absurd HA.out (by simp [impl_ReadName.l0])
                  | succ k2 =>
                    have H := HA.out
                    clear HA
                    simp only [impl_ReadName.l0] at H
                    by_cases c13 : x11_2 < (a0.size : Int)
                    · rw [if_pos c13] at H
                      have c13b0 : decide (x11_2 < (a0.size : Int)) = true := decide_eq_true c13
                      clear c13
                      by_cases c14 : 0 ≤ x11_2
                      · rw [if_pos c14] at H
                        have c14b0 : decide (0 ≤ x11_2) = true := decide_eq_true c14
                        clear c14
                        by_cases c16 : (bt a0 x11_2) = 92
                        · rw [if_pos c16] at H
                          have c16b0 : ((bt a0 x11_2) == 92) = true := beq_iff_eq.mpr c16
                          have c16b1 : ((bt a0 x11_2) != 92) = false := bne_eq_false_iff_eq.mpr c16
                          clear c16
                          replace H := Option.bind_eq_some_iff.mp H
                          obtain ⟨⟨t105, t106, t107⟩, A170, H⟩ := H
                          replace H : (if t107 = true then (if x9_2.length < 140737488355328 then (impl_ReadName.l0 k2 a0 a1 t101 x8_2 (x9_2 ++ [t105]) false t106) else (none)) else (some ((⟨#[]⟩ : ByteArray), 4))) = some (r1, r2) := H
                          have A17 := Aside0.mk A170
                          clear A170
                          by_cases c18 : t107 = true
                          · subst c18
                            have H1 : (if x9_2.length < 140737488355328 then (impl_ReadName.l0 k2 a0 a1 t101 x8_2 (x9_2 ++ [t105]) false t106) else (none)) = some (r1, r2) := by rw [if_pos rfl] at H; exact H
                            clear H
                            have H := H1
                            clear H1
                            by_cases c19 : x9_2.length < 140737488355328
                            · rw [if_pos c19] at H
                              have LMc19 := Aside0.mk c19
                              clear c19
                              obtain ⟨y108, hy108⟩ : ∃ y_ : List Int, y_ = (x9_2 ++ [t105]) := ⟨_, rfl⟩
                              replace H : (impl_ReadName.l0 k2 a0 a1 t101 x8_2 y108 false t106) = some (r1, r2) := by first | (rw [hy108]; with_reducible exact H) | (have H2_ := (Option.bind_some _ _).symm.trans H; rw [hy108]; with_reducible exact H2_) | (have H2_ := (Option.bind_some _ _).symm.trans H; with_reducible exact H2_) | with_reducible exact H | (rw [hy108]; exact H) | exact H
                              have Ny108 := Aside0.mk hy108
                              clear hy108
                              have H' := Aside0.mk H
                              clear H
                              have p15 : 0 ≤ (x11_2 : Int) := of_decide_eq_true (by first | (with_reducible assumption) | assumption)
                              have q15 : x11_2 < (a0.size : Int) := of_decide_eq_true (by first | (with_reducible assumption) | assumption)
                              have hx15 := bt_at a0 x11_2
                              replace p15 := eq_true p15
                              replace q15 := eq_true q15
                              go_wp2_with (first | ((with_reducible refine gate_callee (f := 43) rfl ?_); refine goesL_ (some 58) rfl rfl Try.func43 (by kernel_rfl) rfl #[.string a0, .int .i64 x11_2] rfl (by (try simp only [List.map_toArray, List.map_cons, List.map_nil]); first | done | rfl | (simp only [List.length_drop, List.length_take]; rfl)) ?_; (with_reducible refine (impl_escaped.calls k2 a0 x11_2 t105 t106 true _ A17.out).mono ?_); rintro e w' ⟨rfl, ⟨nd, rfl⟩⟩; refine ⟨_, rfl, ?_⟩) | ((with_reducible refine gate_builtin (b := .append) (xs := #[.tmp 64, .tmp 66]) rfl ?_); (try (refine gate_guard (by rfl) ?_; dsimp only)); at_builtin; refine Kd.R_append (Kd.int .u8) (w0 := w) w.heap.size rfl (.tmp 64) (.tmp 66) 30 5 (.int .u8 0) 1 rfl Try.underlying30 info5 rfl (by decide) (by omega) u9 x9_2 t105 [.int .u8 t105] (fun _ => True) (fun _ => False) rfl rfl ?aP (fun _ hk => hk.elim) ?aF ?aO ?aB ?aS ?aL ?_; (case aP => exact rfl); (case aB => exact (by repeat (first | (with_reducible first | exact HB.out | apply below_alloc | apply pw_below_drewN | apply below_drew1) | exact HB.out))); (case aF => exact (fun _ _ => trivial)); (case aO => exact (by (with_reducible repeat (first | apply Kd.R_alloc | apply Kd.R_drewN | apply Kd.R_drew)); exact HO_9.out)); (case aS => exact (below_size (by repeat (first | (with_reducible first | exact HB.out | apply below_alloc | apply pw_below_drewN | apply below_drew1) | exact HB.out)))); (case aL => have := LMc19.out; omega); intro v109 w20 ho hb hg hat; rw [← Ny108.out] at ho; have n0_ := Aside0.mk (Kd.R_over' (by (with_reducible repeat (first | apply Kd.R_alloc | apply Kd.R_drewN | apply Kd.R_drew)); exact HO_6.out) (Kd.R_typed (by (with_reducible repeat (first | apply Kd.R_alloc | apply Kd.R_drewN | apply Kd.R_drew)); exact HO_9.out)) (by decide) hg); have n1_ := Aside0.mk (Kd.R_over' (by (with_reducible repeat (first | apply Kd.R_alloc | apply Kd.R_drewN | apply Kd.R_drew)); exact HO_8.out) (Kd.R_typed (by (with_reducible repeat (first | apply Kd.R_alloc | apply Kd.R_drewN | apply Kd.R_drew)); exact HO_9.out)) (by decide) hg); have n2_ := Aside0.mk (hb); have n3_ := Aside0.mk (ho); clear HO_6; clear HO_8; clear HB; clear HO_9; have HO_6 := n0_; have HO_8 := n1_; have HB := n2_; have HO110 := n3_; clear n0_ n1_ n2_ n3_; clear ho hb hg hat))
                              go_roundg k2
                              case measure => have := HJ3.out; have := HK2.out; omega
                              case rel => exact ⟨(x8_2), (y108), (false), (t106), (by first | rfl | (simp; done) | (simp [*]; done)), (by first | rfl | (simp; done) | (simp [*]; done)), H', ⟨by have := HJ3.out; have := HK2.out; omega⟩, ⟨by (with_reducible repeat (first | apply Kd.R_alloc | apply Kd.R_drewN | apply Kd.R_drew)); exact HO_6.out⟩, ⟨by (with_reducible repeat (first | apply Kd.R_alloc | apply Kd.R_drewN | apply Kd.R_drew)); exact HO_8.out⟩, ⟨by (with_reducible repeat (first | apply Kd.R_alloc | apply Kd.R_drewN | apply Kd.R_drew)); exact HO110.out⟩, ⟨by repeat (first | (with_reducible first | exact HB.out | apply below_alloc | apply pw_below_drewN | apply below_drew1) | exact HB.out)⟩⟩
                            · rw [if_neg c19] at H
                              exact absurd H (by simp)
                          · replace c18 := Bool.eq_false_iff.mpr c18
                            subst c18
                            have H1 : (some ((⟨#[]⟩ : ByteArray), 4)) = some (r1, r2) := by rw [if_neg (show ¬ (false = true) by decide)] at H; exact H
                            clear H
                            have H := H1
                            clear H1
                            simp only [Option.some.injEq, Prod.mk.injEq] at H
                            obtain ⟨rfl, rfl⟩ := H
                            have p15 : 0 ≤ (x11_2 : Int) := of_decide_eq_true (by first | (with_reducible assumption) | assumption)
                            have q15 : x11_2 < (a0.size : Int) := of_decide_eq_true (by first | (with_reducible assumption) | assumption)
                            have hx15 := bt_at a0 x11_2
                            replace p15 := eq_true p15
                            replace q15 := eq_true q15
                            go_wp2_with (first | ((with_reducible refine gate_callee (f := 43) rfl ?_); refine goesL_ (some 58) rfl rfl Try.func43 (by kernel_rfl) rfl #[.string a0, .int .i64 x11_2] rfl (by (try simp only [List.map_toArray, List.map_cons, List.map_nil]); first | done | rfl | (simp only [List.length_drop, List.length_take]; rfl)) ?_; (with_reducible refine (impl_escaped.calls k2 a0 x11_2 t105 t106 false _ A17.out).mono ?_); rintro e w' ⟨rfl, ⟨nd, rfl⟩⟩; refine ⟨_, rfl, ?_⟩))
                            go_ret2
                            exact ⟨by first | rfl | (simp [errW_none, errW_some] <;> rfl) | (simp [*, errW_none, errW_some] <;> rfl), by repeat (first | (with_reducible first | exact HB.out | apply below_alloc | apply pw_below_drewN | apply below_drew1) | exact HB.out)⟩
                        · rw [if_neg c16] at H
                          have c16b0 : ((bt a0 x11_2) == 92) = false := beq_eq_false_iff_ne.mpr c16
                          have c16b1 : ((bt a0 x11_2) != 92) = true := bne_iff_ne.mpr c16
                          by_cases c21 : (bt a0 x11_2) = 46
                          · rw [if_pos c21] at H
                            have c21b0 : ((bt a0 x11_2) == 46) = true := beq_iff_eq.mpr c21
                            have c21b1 : ((bt a0 x11_2) != 46) = false := bne_eq_false_iff_eq.mpr c21
                            clear c21
                            by_cases c22 : (x9_2.length : Int) < 1
                            · rw [if_pos c22] at H
                              have c22b0 : decide ((x9_2.length : Int) < 1) = true := decide_eq_true c22
                              have c22b1 : decide (x9_2.length < 1) = true := decide_eq_true (by omega)
                              clear c22
                              simp only [Option.some.injEq, Prod.mk.injEq] at H
                              obtain ⟨rfl, rfl⟩ := H
                              have p15 : 0 ≤ (x11_2 : Int) := of_decide_eq_true (by first | (with_reducible assumption) | assumption)
                              have q15 : x11_2 < (a0.size : Int) := of_decide_eq_true (by first | (with_reducible assumption) | assumption)
                              have hx15 := bt_at a0 x11_2
                              replace p15 := eq_true p15
                              replace q15 := eq_true q15
                              obtain ⟨Ao23, co23, eo23⟩ := Kd.R_slice HO_9.out
                              subst eo23
                              go_wp2
                              go_ret2
                              exact ⟨by first | rfl | (simp [errW_none, errW_some] <;> rfl) | (simp [*, errW_none, errW_some] <;> rfl), by repeat (first | (with_reducible first | exact HB.out | apply below_alloc | apply pw_below_drewN | apply below_drew1) | exact HB.out)⟩
                            · rw [if_neg c22] at H
                              have c22b0 : decide ((x9_2.length : Int) < 1) = false := decide_eq_false c22
                              have c22b1 : decide (x9_2.length < 1) = false := decide_eq_false (by omega)
                              clear c22
                              by_cases c24 : (x9_2.length : Int) > 63
                              · rw [if_pos c24] at H
                                have c24b0 : decide (63 < (x9_2.length : Int)) = true := decide_eq_true c24
                                have c24b1 : decide (63 < x9_2.length) = true := decide_eq_true (by omega)
                                clear c24
                                simp only [Option.some.injEq, Prod.mk.injEq] at H
                                obtain ⟨rfl, rfl⟩ := H
                                have p15 : 0 ≤ (x11_2 : Int) := of_decide_eq_true (by first | (with_reducible assumption) | assumption)
                                have q15 : x11_2 < (a0.size : Int) := of_decide_eq_true (by first | (with_reducible assumption) | assumption)
                                have hx15 := bt_at a0 x11_2
                                replace p15 := eq_true p15
                                replace q15 := eq_true q15
                                obtain ⟨Ao25, co25, eo25⟩ := Kd.R_slice HO_9.out
                                subst eo25
                                go_wp2
                                go_ret2
                                exact ⟨by first | rfl | (simp [errW_none, errW_some] <;> rfl) | (simp [*, errW_none, errW_some] <;> rfl), by repeat (first | (with_reducible first | exact HB.out | apply below_alloc | apply pw_below_drewN | apply below_drew1) | exact HB.out)⟩
                              · rw [if_neg c24] at H
                                have c24b0 : decide (63 < (x9_2.length : Int)) = false := decide_eq_false c24
                                have c24b1 : decide (63 < x9_2.length) = false := decide_eq_false (by omega)
                                clear c24
                                by_cases c26 : x8_2.length < 8796093022208
                                · rw [if_pos c26] at H
                                  have LMc26 := Aside0.mk c26
                                  clear c26
                                  obtain ⟨y111, hy111⟩ : ∃ y_ : List ByteArray, y_ = (x8_2 ++ [strOfNums x9_2]) := ⟨_, rfl⟩
                                  replace H : (impl_ReadName.l0 k2 a0 a1 t101 y111 ([] : List Int) true (wrap64 (x11_2 + 1))) = some (r1, r2) := by first | (rw [hy111]; with_reducible exact H) | (have H2_ := (Option.bind_some _ _).symm.trans H; rw [hy111]; with_reducible exact H2_) | (have H2_ := (Option.bind_some _ _).symm.trans H; with_reducible exact H2_) | with_reducible exact H | (rw [hy111]; exact H) | exact H
                                  have Ny111 := Aside0.mk hy111
                                  clear hy111
                                  have H' := Aside0.mk H
                                  clear H
                                  have p15 : 0 ≤ (x11_2 : Int) := of_decide_eq_true (by first | (with_reducible assumption) | assumption)
                                  have q15 : x11_2 < (a0.size : Int) := of_decide_eq_true (by first | (with_reducible assumption) | assumption)
                                  have hx15 := bt_at a0 x11_2
                                  replace p15 := eq_true p15
                                  replace q15 := eq_true q15
                                  obtain ⟨Ao27, co27, eo27⟩ := Kd.R_slice HO_9.out
                                  subst eo27
                                  have hcv28 := own_string (P := Try.prog) Try.underlying30 Try.underlying5 Try.underlying9 (Kd.own_of_R HO_9.out)
                                  go_wp2_with (first | ((with_reducible refine gate_builtin (b := .append) (xs := #[.tmp 79, .tmp 82]) rfl ?_); (try (refine gate_guard (by rfl) ?_; dsimp only)); at_builtin; refine Kd.R_append Kd.string (w0 := w) w.heap.size rfl (.tmp 79) (.tmp 82) 38 9 (.string ⟨#[]⟩) 16 rfl Try.underlying38 info9 rfl (by decide) (by omega) u8 x8_2 (strOfNums x9_2) [.string (strOfNums x9_2)] (fun k_ => some k_ ≠ (v103 : Value).ownBlock) (fun _ => False) rfl rfl ?aP (fun _ hk => hk.elim) ?aF ?aO ?aB ?aS ?aL ?_; (case aP => exact rfl); (case aB => exact (by repeat (first | (with_reducible first | exact HB.out | apply below_alloc | apply pw_below_drewN | apply below_drew1) | exact HB.out))); (case aF => exact (fun k_ hk => Kd.fresh' (Kd.R_lt (by (with_reducible repeat (first | apply Kd.R_alloc | apply Kd.R_drewN | apply Kd.R_drew)); exact HO_6.out)) k_ hk)); (case aO => exact (by (with_reducible repeat (first | apply Kd.R_alloc | apply Kd.R_drewN | apply Kd.R_drew)); exact HO_8.out)); (case aS => exact (below_size (by repeat (first | (with_reducible first | exact HB.out | apply below_alloc | apply pw_below_drewN | apply below_drew1) | exact HB.out)))); (case aL => have := LMc26.out; omega); intro v112 w29 ho hb hg hat; rw [← Ny111.out] at ho; have n0_ := Aside0.mk (Kd.R_after (ok := (fun _ => True)) (by (with_reducible repeat (first | apply Kd.R_alloc | apply Kd.R_drewN | apply Kd.R_drew)); exact Kd.R_mono HO_6.out (fun _ hk => ⟨trivial, hk⟩)) hg hat); have n1_ := Aside0.mk (Kd.R_over' (by (with_reducible repeat (first | apply Kd.R_alloc | apply Kd.R_drewN | apply Kd.R_drew)); exact HO_9.out) (Kd.R_typed (by (with_reducible repeat (first | apply Kd.R_alloc | apply Kd.R_drewN | apply Kd.R_drew)); exact HO_8.out)) (by decide) hg); have n2_ := Aside0.mk (hb); have n3_ := Aside0.mk (ho); clear HO_6; clear HO_9; clear HB; clear HO_8; have HO_6 := n0_; have HO_9 := n1_; have HB := n2_; have HO113 := n3_; clear n0_ n1_ n2_ n3_; clear ho hb hg hat))
                                  go_roundg k2
                                  case measure => have := HJ3.out; have := HK2.out; omega
                                  case rel => exact ⟨(y111), (([] : List Int)), (true), (wrap64 (x11_2 + 1)), (by first | rfl | (simp; done) | (simp [*]; done)), (by first | rfl | (simp; done) | (simp [*]; done)), H', ⟨by have := HJ3.out; have := HK2.out; omega⟩, ⟨by (with_reducible repeat (first | apply Kd.R_alloc | apply Kd.R_drewN | apply Kd.R_drew)); exact Kd.R_mono HO_6.out (fun _ hk => hk.2)⟩, ⟨by (with_reducible repeat (first | apply Kd.R_alloc | apply Kd.R_drewN | apply Kd.R_drew)); exact HO113.out⟩, ⟨by first | exact Kd.R_nil _ _ _ _ _ | exact Kd.N_nil _ _ _ _ _ | exact Kd.V_nil _ _ _ _ _ | exact Kd.Q_nil _ _ _ _ _ | exact Kd.S_nil _ _ _ _ _⟩, ⟨by repeat (first | (with_reducible first | exact HB.out | apply below_alloc | apply pw_below_drewN | apply below_drew1) | exact HB.out)⟩⟩
                                · rw [if_neg c26] at H
                                  exact absurd H (by simp)
                          · rw [if_neg c21] at H
                            have c21b0 : ((bt a0 x11_2) == 46) = false := beq_eq_false_iff_ne.mpr c21
                            have c21b1 : ((bt a0 x11_2) != 46) = true := bne_iff_ne.mpr c21
                            by_cases c30 : x9_2.length < 140737488355328
                            · rw [if_pos c30] at H
                              have LMc30 := Aside0.mk c30
                              clear c30
                              obtain ⟨y114, hy114⟩ : ∃ y_ : List Int, y_ = (x9_2 ++ [bt a0 x11_2]) := ⟨_, rfl⟩
                              replace H : (impl_ReadName.l0 k2 a0 a1 t101 x8_2 y114 false (wrap64 (x11_2 + 1))) = some (r1, r2) := by first | (rw [hy114]; with_reducible exact H) | (have H2_ := (Option.bind_some _ _).symm.trans H; rw [hy114]; with_reducible exact H2_) | (have H2_ := (Option.bind_some _ _).symm.trans H; with_reducible exact H2_) | with_reducible exact H | (rw [hy114]; exact H) | exact H
                              have Ny114 := Aside0.mk hy114
                              clear hy114
                              have H' := Aside0.mk H
                              clear H
                              have p15 : 0 ≤ (x11_2 : Int) := of_decide_eq_true (by first | (with_reducible assumption) | assumption)
                              have q15 : x11_2 < (a0.size : Int) := of_decide_eq_true (by first | (with_reducible assumption) | assumption)
                              have hx15 := bt_at a0 x11_2
                              replace p15 := eq_true p15
                              replace q15 := eq_true q15
                              go_wp2_with (first | ((with_reducible refine gate_builtin (b := .append) (xs := #[.tmp 49, .tmp 51]) rfl ?_); (try (refine gate_guard (by rfl) ?_; dsimp only)); at_builtin; refine Kd.R_append (Kd.int .u8) (w0 := w) w.heap.size rfl (.tmp 49) (.tmp 51) 30 5 (.int .u8 0) 1 rfl Try.underlying30 info5 rfl (by decide) (by omega) u9 x9_2 (bt a0 x11_2) [.int .u8 (bt a0 x11_2)] (fun _ => True) (fun _ => False) rfl rfl ?aP (fun _ hk => hk.elim) ?aF ?aO ?aB ?aS ?aL ?_; (case aP => exact rfl); (case aB => exact (by repeat (first | (with_reducible first | exact HB.out | apply below_alloc | apply pw_below_drewN | apply below_drew1) | exact HB.out))); (case aF => exact (fun _ _ => trivial)); (case aO => exact (by (with_reducible repeat (first | apply Kd.R_alloc | apply Kd.R_drewN | apply Kd.R_drew)); exact HO_9.out)); (case aS => exact (below_size (by repeat (first | (with_reducible first | exact HB.out | apply below_alloc | apply pw_below_drewN | apply below_drew1) | exact HB.out)))); (case aL => have := LMc30.out; omega); intro v115 w31 ho hb hg hat; rw [← Ny114.out] at ho; have n0_ := Aside0.mk (Kd.R_over' (by (with_reducible repeat (first | apply Kd.R_alloc | apply Kd.R_drewN | apply Kd.R_drew)); exact HO_6.out) (Kd.R_typed (by (with_reducible repeat (first | apply Kd.R_alloc | apply Kd.R_drewN | apply Kd.R_drew)); exact HO_9.out)) (by decide) hg); have n1_ := Aside0.mk (Kd.R_over' (by (with_reducible repeat (first | apply Kd.R_alloc | apply Kd.R_drewN | apply Kd.R_drew)); exact HO_8.out) (Kd.R_typed (by (with_reducible repeat (first | apply Kd.R_alloc | apply Kd.R_drewN | apply Kd.R_drew)); exact HO_9.out)) (by decide) hg); have n2_ := Aside0.mk (hb); have n3_ := Aside0.mk (ho); clear HO_6; clear HO_8; clear HB; clear HO_9; have HO_6 := n0_; have HO_8 := n1_; have HB := n2_; have HO116 := n3_; clear n0_ n1_ n2_ n3_; clear ho hb hg hat))
                              go_roundg k2
                              case measure => have := HJ3.out; have := HK2.out; omega
                              case rel => exact ⟨(x8_2), (y114), (false), (wrap64 (x11_2 + 1)), (by first | rfl | (simp; done) | (simp [*]; done)), (by first | rfl | (simp; done) | (simp [*]; done)), H', ⟨by have := HJ3.out; have := HK2.out; omega⟩, ⟨by (with_reducible repeat (first | apply Kd.R_alloc | apply Kd.R_drewN | apply Kd.R_drew)); exact HO_6.out⟩, ⟨by (with_reducible repeat (first | apply Kd.R_alloc | apply Kd.R_drewN | apply Kd.R_drew)); exact HO_8.out⟩, ⟨by (with_reducible repeat (first | apply Kd.R_alloc | apply Kd.R_drewN | apply Kd.R_drew)); exact HO116.out⟩, ⟨by repeat (first | (with_reducible first | exact HB.out | apply below_alloc | apply pw_below_drewN | apply below_drew1) | exact HB.out)⟩⟩
                            · rw [if_neg c30] at H
                              exact absurd H (by simp)
                      · rw [if_neg c14] at H
                        exact absurd H (by simp)
                    · rw [if_neg c13] at H
                      have c13b0 : decide (x11_2 < (a0.size : Int)) = false := decide_eq_false c13
                      clear c13
                      by_cases c32 : x10_2 = true
                      · subst c32
                        have H1 : ((impl_joined.f x8_2).bind fun t117 => (if (t117.size : Int) > 255 then (some ((⟨#[]⟩ : ByteArray), 3)) else (some (t117, 0)))) = some (r1, r2) := by rw [if_pos rfl] at H; exact H
                        clear H
                        have H := H1
                        clear H1
                        replace H := Option.bind_eq_some_iff.mp H
                        obtain ⟨t117, A330, H⟩ := H
                        replace H : (if (t117.size : Int) > 255 then (some ((⟨#[]⟩ : ByteArray), 3)) else (some (t117, 0))) = some (r1, r2) := H
                        have A33 := Aside0.mk A330
                        clear A330
                        by_cases c34 : (t117.size : Int) > 255
                        · rw [if_pos c34] at H
                          have c34b0 : decide (255 < (t117.size : Int)) = true := decide_eq_true c34
                          have c34b1 : decide (255 < t117.size) = true := decide_eq_true (by omega)
                          clear c34
                          simp only [Option.some.injEq, Prod.mk.injEq] at H
                          obtain ⟨rfl, rfl⟩ := H
                          obtain ⟨Ao35, co35, eo35⟩ := Kd.R_slice HO_8.out
                          subst eo35
                          go_wp2_with (first | ((with_reducible refine gate_callee (f := 39) rfl ?_); refine goesL_ (some 107) rfl rfl Try.func39 (by kernel_rfl) rfl #[.slice Ao35 x8_2.length co35] rfl (by (try simp only [List.map_toArray, List.map_cons, List.map_nil]); first | done | rfl | (simp only [List.length_drop, List.length_take]; rfl)) ?_; (with_reducible refine (impl_joined.calls _ _ x8_2 t117 _ ?side1 ?side2 A33.out).mono ?_); (case side1 => repeat (first | exact (Kd.R_reads' HO_8.out).2.2 | (with_reducible refine Kd.C_alloc ?_ _) | (with_reducible refine Kd.C_drewN ?_ _) | (with_reducible refine Kd.C_drew ?_))); (case side2 => exact (Kd.R_reads' HO_8.out).2.1); rintro e w36 ⟨rfl, hb⟩; refine ⟨_, rfl, ?_⟩; have n0_ := Aside0.mk (Kd.R_below (by (with_reducible repeat (first | apply Kd.R_alloc | apply Kd.R_drewN | apply Kd.R_drew)); exact HO_6.out) hb); have n1_ := Aside0.mk (Kd.R_below (by (with_reducible repeat (first | apply Kd.R_alloc | apply Kd.R_drewN | apply Kd.R_drew)); exact HO_8.out) hb); have n2_ := Aside0.mk (Kd.R_below (by (with_reducible repeat (first | apply Kd.R_alloc | apply Kd.R_drewN | apply Kd.R_drew)); exact HO_9.out) hb); have n3_ := Aside0.mk (below_step (by repeat (first | (with_reducible first | exact HB.out | apply below_alloc | apply pw_below_drewN | apply below_drew1) | exact HB.out)) hb); clear HO_6; clear HO_8; clear HO_9; clear HB; have HO_6 := n0_; have HO_8 := n1_; have HO_9 := n2_; have HB := n3_; clear n0_ n1_ n2_ n3_; (try clear hb); (try clear hb2); (try clear hk); (try clear hi)))
                          go_ret2
                          exact ⟨by first | rfl | (simp [errW_none, errW_some] <;> rfl) | (simp [*, errW_none, errW_some] <;> rfl), by repeat (first | (with_reducible first | exact HB.out | apply below_alloc | apply pw_below_drewN | apply below_drew1) | exact HB.out)⟩
                        · rw [if_neg c34] at H
                          have c34b0 : decide (255 < (t117.size : Int)) = false := decide_eq_false c34
                          have c34b1 : decide (255 < t117.size) = false := decide_eq_false (by omega)
                          clear c34
                          simp only [Option.some.injEq, Prod.mk.injEq] at H
                          obtain ⟨rfl, rfl⟩ := H
                          obtain ⟨Ao37, co37, eo37⟩ := Kd.R_slice HO_8.out
                          subst eo37
                          go_wp2_with (first | ((with_reducible refine gate_callee (f := 39) rfl ?_); refine goesL_ (some 107) rfl rfl Try.func39 (by kernel_rfl) rfl #[.slice Ao37 x8_2.length co37] rfl (by (try simp only [List.map_toArray, List.map_cons, List.map_nil]); first | done | rfl | (simp only [List.length_drop, List.length_take]; rfl)) ?_; (with_reducible refine (impl_joined.calls _ _ x8_2 t117 _ ?side1 ?side2 A33.out).mono ?_); (case side1 => repeat (first | exact (Kd.R_reads' HO_8.out).2.2 | (with_reducible refine Kd.C_alloc ?_ _) | (with_reducible refine Kd.C_drewN ?_ _) | (with_reducible refine Kd.C_drew ?_))); (case side2 => exact (Kd.R_reads' HO_8.out).2.1); rintro e w38 ⟨rfl, hb⟩; refine ⟨_, rfl, ?_⟩; have n0_ := Aside0.mk (Kd.R_below (by (with_reducible repeat (first | apply Kd.R_alloc | apply Kd.R_drewN | apply Kd.R_drew)); exact HO_6.out) hb); have n1_ := Aside0.mk (Kd.R_below (by (with_reducible repeat (first | apply Kd.R_alloc | apply Kd.R_drewN | apply Kd.R_drew)); exact HO_8.out) hb); have n2_ := Aside0.mk (Kd.R_below (by (with_reducible repeat (first | apply Kd.R_alloc | apply Kd.R_drewN | apply Kd.R_drew)); exact HO_9.out) hb); have n3_ := Aside0.mk (below_step (by repeat (first | (with_reducible first | exact HB.out | apply below_alloc | apply pw_below_drewN | apply below_drew1) | exact HB.out)) hb); clear HO_6; clear HO_8; clear HO_9; clear HB; have HO_6 := n0_; have HO_8 := n1_; have HO_9 := n2_; have HB := n3_; clear n0_ n1_ n2_ n3_; (try clear hb); (try clear hb2); (try clear hk); (try clear hi)))
                          go_ret2
                          exact ⟨by first | rfl | (simp [errW_none, errW_some] <;> rfl) | (simp [*, errW_none, errW_some] <;> rfl), by repeat (first | (with_reducible first | exact HB.out | apply below_alloc | apply pw_below_drewN | apply below_drew1) | exact HB.out)⟩
                      · replace c32 := Bool.eq_false_iff.mpr c32
                        subst c32
                        have H1 : (if (x9_2.length : Int) < 1 then (impl_ReadName.j2 k2 a1 t101 x8_2 x9_2 true) else (impl_ReadName.j2 k2 a1 t101 x8_2 x9_2 (decide ((x9_2.length : Int) > 63)))) = some (r1, r2) := by rw [if_neg (show ¬ (false = true) by decide)] at H; exact H
                        clear H
                        have H := H1
                        clear H1
                        have HC39 := Aside0.mk H
                        clear H
                        go_upto_region 38 with (fail)
                        go_cut [95] (fun v95 wc => ∃ (kq : Nat) (x95_38 : Bool), v95 = .bool x95_38 ∧ Aside0 (impl_ReadName.j2 kq a1 t101 x8_2 x9_2 x95_38 = some (r1, r2)) ∧ Aside0 (kq ≤ k2) ∧ Aside0 (Kd.R Kd.string 9 wc w.heap.size (fun k_ => some k_ ≠ (u8 : Value).ownBlock) v103 t101) ∧ Aside0 (Kd.R Kd.string 9 wc w.heap.size (fun k_ => some k_ ≠ (v103 : Value).ownBlock) u8 x8_2) ∧ Aside0 (Kd.R (Kd.int .u8) 5 wc w.heap.size (fun _ => True) u9 x9_2) ∧ Aside0 (Below w.heap.size w wc))
                        case first =>
                          have H := HC39.out
                          clear HC39
                          by_cases c40 : (x9_2.length : Int) < 1
                          · rw [if_pos c40] at H
                            have c40b0 : decide ((x9_2.length : Int) < 1) = true := decide_eq_true c40
                            have c40b1 : decide (x9_2.length < 1) = true := decide_eq_true (by omega)
                            clear c40
                            (first | rw [c40b0] | (simp only [i64_w, i32_w]; rw [c40b0]) | skip)
                            have H' := Aside0.mk H
                            clear H
                            obtain ⟨Ao41, co41, eo41⟩ := Kd.R_slice HO_9.out
                            subst eo41
                            go_wp2
                            go_meet
                            case rel => exact ⟨_, (true), (by first | rfl | (simp; done) | (simp [*]; done)), H', ⟨by have := HJ3.out; have := HK2.out; first | omega | exact Nat.le_refl _⟩, ⟨by (with_reducible repeat (first | apply Kd.R_alloc | apply Kd.R_drewN | apply Kd.R_drew)); exact HO_6.out⟩, ⟨by (with_reducible repeat (first | apply Kd.R_alloc | apply Kd.R_drewN | apply Kd.R_drew)); exact HO_8.out⟩, ⟨by (with_reducible repeat (first | apply Kd.R_alloc | apply Kd.R_drewN | apply Kd.R_drew)); exact HO_9.out⟩, ⟨by repeat (first | (with_reducible first | exact HB.out | apply below_alloc | apply pw_below_drewN | apply below_drew1) | exact HB.out)⟩⟩
                          · rw [if_neg c40] at H
                            have c40b0 : decide ((x9_2.length : Int) < 1) = false := decide_eq_false c40
                            have c40b1 : decide (x9_2.length < 1) = false := decide_eq_false (by omega)
                            clear c40
                            (first | rw [c40b0] | (simp only [i64_w, i32_w]; rw [c40b0]) | skip)
                            have H' := Aside0.mk H
                            clear H
                            obtain ⟨Ao42, co42, eo42⟩ := Kd.R_slice HO_9.out
                            subst eo42
                            go_wp2
                            go_meet
                            case rel => exact ⟨_, (decide ((x9_2.length : Int) > 63)), (by first | rfl | (simp; done) | (simp [*]; done)), H', ⟨by have := HJ3.out; have := HK2.out; first | omega | exact Nat.le_refl _⟩, ⟨by (with_reducible repeat (first | apply Kd.R_alloc | apply Kd.R_drewN | apply Kd.R_drew)); exact HO_6.out⟩, ⟨by (with_reducible repeat (first | apply Kd.R_alloc | apply Kd.R_drewN | apply Kd.R_drew)); exact HO_8.out⟩, ⟨by (with_reducible repeat (first | apply Kd.R_alloc | apply Kd.R_drewN | apply Kd.R_drew)); exact HO_9.out⟩, ⟨by repeat (first | (with_reducible first | exact HB.out | apply below_alloc | apply pw_below_drewN | apply below_drew1) | exact HB.out)⟩⟩
                        case rest =>
                          clear HC39
                          try clear c1
                          try clear p1
                          try clear q1
                          try clear hx1
                          try clear c2
                          try clear p2
                          try clear hcv2
                          try clear c3
                          try clear c4
                          try clear c6
                          try clear c6b0
                          try clear c6b1
                          try clear p6
                          try clear c7
                          try clear c8
                          try clear c8b0
                          try clear c8b1
                          try clear c9
                          try clear c9b0
                          try clear c9b1
                          try clear c10
                          try clear c10b0
                          try clear c10b1
                          try clear c11
                          try clear c11b0
                          try clear c11b1
                          try clear c12
                          try clear c12b0
                          try clear c12b1
                          try clear c13
                          try clear c13b0
                          try clear c14
                          try clear c14b0
                          try clear p15
                          try clear q15
                          try clear hx15
                          try clear c16
                          try clear c16b0
                          try clear c16b1
                          try clear c17
                          try clear c18
                          try clear c19
                          try clear c21
                          try clear c21b0
                          try clear c21b1
                          try clear c22
                          try clear c22b0
                          try clear c22b1
                          try clear c24
                          try clear c24b0
                          try clear c24b1
                          try clear c26
                          try clear hcv28
                          try clear c30
                          try clear c32
                          try clear c34
                          try clear c34b0
                          try clear c34b1
                          try clear c37
                          try clear c39
                          try clear c40
                          try clear c40b0
                          try clear c40b1
                          try clear p15
                          try clear p2
                          try clear q15
                          obtain ⟨kq, x95_38, rfl, HA, HJ38, HO_6, HO_8, HO_9, HB⟩ := hcut
                          cases kq with
                          | zero => exact absurd HA.out (by simp [impl_ReadName.j2])
                          | succ kj38 =>
                            have H := HA.out
                            clear HA
                            simp only [impl_ReadName.j2] at H
                            by_cases c43 : x95_38 = true
                            · subst c43
                              have H1 : (some ((⟨#[]⟩ : ByteArray), 2)) = some (r1, r2) := by rw [if_pos rfl] at H; exact H
                              clear H
                              have H := H1
                              clear H1
                              simp only [Option.some.injEq, Prod.mk.injEq] at H
                              obtain ⟨rfl, rfl⟩ := H
                              go_wp2
                              go_ret2
                              exact ⟨by first | rfl | (simp [errW_none, errW_some] <;> rfl) | (simp [*, errW_none, errW_some] <;> rfl), by repeat (first | (with_reducible first | exact HB.out | apply below_alloc | apply pw_below_drewN | apply below_drew1) | exact HB.out)⟩
                            · replace c43 := Bool.eq_false_iff.mpr c43
                              subst c43
                              have H1 : (if x8_2.length < 8796093022208 then ((some (x8_2 ++ [strOfNums x9_2] : List ByteArray)).bind fun y118 => (if a1.toList = ([] : List UInt8) then (some ((⟨#[]⟩ : ByteArray), 5)) else (if y118.length + t101.length < 8796093022208 then ((impl_joined.f (y118 ++ t101)).bind fun t124 => (if (t124.size : Int) > 255 then (some ((⟨#[]⟩ : ByteArray), 3)) else (some (t124, 0)))) else (none)))) else (none)) = some (r1, r2) := by rw [if_neg (show ¬ (false = true) by decide)] at H; exact H
                              clear H
                              have H := H1
                              clear H1
                              by_cases c44 : x8_2.length < 8796093022208
                              · rw [if_pos c44] at H
                                have LMc44 := Aside0.mk c44
                                clear c44
                                obtain ⟨y118, hy118⟩ : ∃ y_ : List ByteArray, y_ = (x8_2 ++ [strOfNums x9_2]) := ⟨_, rfl⟩
                                replace H : (if a1.toList = ([] : List UInt8) then (some ((⟨#[]⟩ : ByteArray), 5)) else (if y118.length + t101.length < 8796093022208 then ((impl_joined.f (y118 ++ t101)).bind fun t124 => (if (t124.size : Int) > 255 then (some ((⟨#[]⟩ : ByteArray), 3)) else (some (t124, 0)))) else (none))) = some (r1, r2) := by first | (rw [hy118]; with_reducible exact H) | (have H2_ := (Option.bind_some _ _).symm.trans H; rw [hy118]; with_reducible exact H2_) | (have H2_ := (Option.bind_some _ _).symm.trans H; with_reducible exact H2_) | with_reducible exact H | (rw [hy118]; exact H) | exact H
                                have Ny118 := Aside0.mk hy118
                                clear hy118
                                by_cases c45 : a1.toList = ([] : List UInt8)
                                · rw [if_pos c45] at H
                                  have c45b0 : (a1.toList == ([] : List UInt8)) = true := beq_iff_eq.mpr c45
                                  have c45b1 : (a1.toList != ([] : List UInt8)) = false := bne_eq_false_iff_eq.mpr c45
                                  clear c45
                                  simp only [Option.some.injEq, Prod.mk.injEq] at H
                                  obtain ⟨rfl, rfl⟩ := H
                                  have hcv46 := own_string (P := Try.prog) Try.underlying30 Try.underlying5 Try.underlying9 (Kd.own_of_R HO_9.out)
                                  go_wp2_with (first | ((with_reducible refine gate_builtin (b := .append) (xs := #[.tmp 96, .tmp 99]) rfl ?_); (try (refine gate_guard (by rfl) ?_; dsimp only)); at_builtin; refine Kd.R_append Kd.string (w0 := w) w.heap.size rfl (.tmp 96) (.tmp 99) 38 9 (.string ⟨#[]⟩) 16 rfl Try.underlying38 info9 rfl (by decide) (by omega) u8 x8_2 (strOfNums x9_2) [.string (strOfNums x9_2)] (fun k_ => some k_ ≠ (v103 : Value).ownBlock) (fun _ => False) rfl rfl ?aP (fun _ hk => hk.elim) ?aF ?aO ?aB ?aS ?aL ?_; (case aP => exact rfl); (case aB => exact (by repeat (first | (with_reducible first | exact HB.out | apply below_alloc | apply pw_below_drewN | apply below_drew1) | exact HB.out))); (case aF => exact (fun k_ hk => Kd.fresh' (Kd.R_lt (by (with_reducible repeat (first | apply Kd.R_alloc | apply Kd.R_drewN | apply Kd.R_drew)); exact HO_6.out)) k_ hk)); (case aO => exact (by (with_reducible repeat (first | apply Kd.R_alloc | apply Kd.R_drewN | apply Kd.R_drew)); exact HO_8.out)); (case aS => exact (below_size (by repeat (first | (with_reducible first | exact HB.out | apply below_alloc | apply pw_below_drewN | apply below_drew1) | exact HB.out)))); (case aL => have := LMc44.out; omega); intro v119 w47 ho hb hg hat; rw [← Ny118.out] at ho; have n0_ := Aside0.mk (Kd.R_after (ok := (fun _ => True)) (by (with_reducible repeat (first | apply Kd.R_alloc | apply Kd.R_drewN | apply Kd.R_drew)); exact Kd.R_mono HO_6.out (fun _ hk => ⟨trivial, hk⟩)) hg hat); have n1_ := Aside0.mk (Kd.R_over' (by (with_reducible repeat (first | apply Kd.R_alloc | apply Kd.R_drewN | apply Kd.R_drew)); exact HO_9.out) (Kd.R_typed (by (with_reducible repeat (first | apply Kd.R_alloc | apply Kd.R_drewN | apply Kd.R_drew)); exact HO_8.out)) (by decide) hg); have n2_ := Aside0.mk (hb); have n3_ := Aside0.mk (ho); clear HO_6; clear HO_9; clear HB; clear HO_8; have HO_6 := n0_; have HO_9 := n1_; have HB := n2_; have HO120 := n3_; clear n0_ n1_ n2_ n3_; clear ho hb hg hat))
                                  go_ret2
                                  exact ⟨by first | rfl | (simp [errW_none, errW_some] <;> rfl) | (simp [*, errW_none, errW_some] <;> rfl), by repeat (first | (with_reducible first | exact HB.out | apply below_alloc | apply pw_below_drewN | apply below_drew1) | exact HB.out)⟩
                                · rw [if_neg c45] at H
                                  have c45b0 : (a1.toList == ([] : List UInt8)) = false := beq_eq_false_iff_ne.mpr c45
                                  have c45b1 : (a1.toList != ([] : List UInt8)) = true := bne_iff_ne.mpr c45
                                  by_cases c48 : y118.length + t101.length < 8796093022208
                                  · rw [if_pos c48] at H
                                    have LMc48 := Aside0.mk c48
                                    clear c48
                                    obtain ⟨y121, hy121⟩ : ∃ y_ : List ByteArray, y_ = (y118 ++ t101) := ⟨_, rfl⟩
                                    replace H : ((impl_joined.f y121).bind fun t124 => (if (t124.size : Int) > 255 then (some ((⟨#[]⟩ : ByteArray), 3)) else (some (t124, 0)))) = some (r1, r2) := by first | (rw [hy121]; with_reducible exact H) | (have H2_ := (Option.bind_some _ _).symm.trans H; rw [hy121]; with_reducible exact H2_) | (have H2_ := (Option.bind_some _ _).symm.trans H; with_reducible exact H2_) | with_reducible exact H | (rw [hy121]; exact H) | exact H
                                    have Ny121 := Aside0.mk hy121
                                    clear hy121
                                    replace H := Option.bind_eq_some_iff.mp H
                                    obtain ⟨t124, A490, H⟩ := H
                                    replace H : (if (t124.size : Int) > 255 then (some ((⟨#[]⟩ : ByteArray), 3)) else (some (t124, 0))) = some (r1, r2) := H
                                    have A49 := Aside0.mk A490
                                    clear A490
                                    by_cases c50 : (t124.size : Int) > 255
                                    · rw [if_pos c50] at H
                                      have c50b0 : decide (255 < (t124.size : Int)) = true := decide_eq_true c50
                                      have c50b1 : decide (255 < t124.size) = true := decide_eq_true (by omega)
                                      clear c50
                                      simp only [Option.some.injEq, Prod.mk.injEq] at H
                                      obtain ⟨rfl, rfl⟩ := H
                                      have hcv51 := own_string (P := Try.prog) Try.underlying30 Try.underlying5 Try.underlying9 (Kd.own_of_R HO_9.out)
                                      go_wp2_with (first | ((with_reducible refine gate_builtin (b := .append) (xs := #[.tmp 96, .tmp 99]) rfl ?_); (try (refine gate_guard (by rfl) ?_; dsimp only)); at_builtin; refine Kd.R_append Kd.string (w0 := w) w.heap.size rfl (.tmp 96) (.tmp 99) 38 9 (.string ⟨#[]⟩) 16 rfl Try.underlying38 info9 rfl (by decide) (by omega) u8 x8_2 (strOfNums x9_2) [.string (strOfNums x9_2)] (fun k_ => some k_ ≠ (v103 : Value).ownBlock) (fun _ => False) rfl rfl ?aP (fun _ hk => hk.elim) ?aF ?aO ?aB ?aS ?aL ?_; (case aP => exact rfl); (case aB => exact (by repeat (first | (with_reducible first | exact HB.out | apply below_alloc | apply pw_below_drewN | apply below_drew1) | exact HB.out))); (case aF => exact (fun k_ hk => Kd.fresh' (Kd.R_lt (by (with_reducible repeat (first | apply Kd.R_alloc | apply Kd.R_drewN | apply Kd.R_drew)); exact HO_6.out)) k_ hk)); (case aO => exact (by (with_reducible repeat (first | apply Kd.R_alloc | apply Kd.R_drewN | apply Kd.R_drew)); exact HO_8.out)); (case aS => exact (below_size (by repeat (first | (with_reducible first | exact HB.out | apply below_alloc | apply pw_below_drewN | apply below_drew1) | exact HB.out)))); (case aL => have := LMc44.out; omega); intro v119 w52 ho hb hg hat; rw [← Ny118.out] at ho; have n0_ := Aside0.mk (Kd.R_after (ok := (fun _ => True)) (by (with_reducible repeat (first | apply Kd.R_alloc | apply Kd.R_drewN | apply Kd.R_drew)); exact Kd.R_mono HO_6.out (fun _ hk => ⟨trivial, hk⟩)) hg hat); have n1_ := Aside0.mk (Kd.R_over' (by (with_reducible repeat (first | apply Kd.R_alloc | apply Kd.R_drewN | apply Kd.R_drew)); exact HO_9.out) (Kd.R_typed (by (with_reducible repeat (first | apply Kd.R_alloc | apply Kd.R_drewN | apply Kd.R_drew)); exact HO_8.out)) (by decide) hg); have n2_ := Aside0.mk (hb); have n3_ := Aside0.mk (ho); clear HO_6; clear HO_9; clear HB; clear HO_8; have HO_6 := n0_; have HO_9 := n1_; have HB := n2_; have HO120 := n3_; clear n0_ n1_ n2_ n3_; clear ho hb hg hat; obtain ⟨Ao54, co54, eo54⟩ := Kd.R_slice HO_6.out; subst eo54) | ((with_reducible refine gate_builtin (b := .append) (xs := #[.tmp 103, .tmp 104]) rfl ?_); (try (refine gate_guard (by rfl) ?_; dsimp only)); at_builtin; refine Kd.R_append_rows Kd.string (w0 := w) w.heap.size rfl (.tmp 103) (.tmp 104) 38 9 (.string ⟨#[]⟩) 16 rfl Try.underlying38 info9 rfl (by decide) (by omega) v119 y118 t101 _ _ _ (fun k_ => some k_ ≠ (.slice Ao54 t101.length co54 : Value).ownBlock) (fun _ => False) rfl rfl ?aO ?aR (fun _ _ h => h) (fun _ h => h.elim) ?aF ?aB ?aS ?aL ?_; (case aR => repeat (first | exact (Kd.R_reads' HO_6.out).2.2 | (with_reducible refine Kd.C_alloc ?_ _) | (with_reducible refine Kd.C_drewN ?_ _) | (with_reducible refine Kd.C_drew ?_))); (case aB => exact (by repeat (first | (with_reducible first | exact HB.out | apply below_alloc | apply pw_below_drewN | apply below_drew1) | exact HB.out))); (case aF => exact (fun k_ hk => Kd.fresh' (Kd.R_lt (by (with_reducible repeat (first | apply Kd.R_alloc | apply Kd.R_drewN | apply Kd.R_drew)); exact HO_6.out)) k_ hk)); (case aO => exact (by (with_reducible repeat (first | apply Kd.R_alloc | apply Kd.R_drewN | apply Kd.R_drew)); exact HO120.out)); (case aS => exact (below_size (by repeat (first | (with_reducible first | exact HB.out | apply below_alloc | apply pw_below_drewN | apply below_drew1) | exact HB.out)))); (case aL => have := LMc48.out; omega); intro v122 w53 ho hb hg hat; rw [← Ny121.out] at ho; have n0_ := Aside0.mk (Kd.R_after (ok := (fun _ => True)) (by (with_reducible repeat (first | apply Kd.R_alloc | apply Kd.R_drewN | apply Kd.R_drew)); exact HO_6.out) hg hat); have n1_ := Aside0.mk (Kd.R_over' (by (with_reducible repeat (first | apply Kd.R_alloc | apply Kd.R_drewN | apply Kd.R_drew)); exact HO_9.out) (Kd.R_typed (by (with_reducible repeat (first | apply Kd.R_alloc | apply Kd.R_drewN | apply Kd.R_drew)); exact HO120.out)) (by decide) hg); have n2_ := Aside0.mk (hb); have n3_ := Aside0.mk (ho); clear HO_6; clear HO_9; clear HB; clear HO120; have HO_6 := n0_; have HO_9 := n1_; have HB := n2_; have HO123 := n3_; clear n0_ n1_ n2_ n3_; clear ho hb hg hat; obtain ⟨Ao55, co55, eo55⟩ := Kd.R_slice HO123.out; subst eo55) | ((with_reducible refine gate_callee (f := 39) rfl ?_); refine goesL_ (some 107) rfl rfl Try.func39 (by kernel_rfl) rfl #[.slice Ao55 y121.length co55] rfl (by (try simp only [List.map_toArray, List.map_cons, List.map_nil]); first | done | rfl | (simp only [List.length_drop, List.length_take]; rfl)) ?_; (with_reducible refine (impl_joined.calls _ _ y121 t124 _ ?side1 ?side2 A49.out).mono ?_); (case side1 => repeat (first | exact (Kd.R_reads' HO123.out).2.2 | (with_reducible refine Kd.C_alloc ?_ _) | (with_reducible refine Kd.C_drewN ?_ _) | (with_reducible refine Kd.C_drew ?_))); (case side2 => exact (Kd.R_reads' HO123.out).2.1); rintro e w56 ⟨rfl, hb⟩; refine ⟨_, rfl, ?_⟩; have n0_ := Aside0.mk (Kd.R_below (by (with_reducible repeat (first | apply Kd.R_alloc | apply Kd.R_drewN | apply Kd.R_drew)); exact HO_6.out) hb); have n1_ := Aside0.mk (Kd.R_below (by (with_reducible repeat (first | apply Kd.R_alloc | apply Kd.R_drewN | apply Kd.R_drew)); exact HO_9.out) hb); have n2_ := Aside0.mk (Kd.R_below (by (with_reducible repeat (first | apply Kd.R_alloc | apply Kd.R_drewN | apply Kd.R_drew)); exact HO123.out) hb); have n3_ := Aside0.mk (below_step (by repeat (first | (with_reducible first | exact HB.out | apply below_alloc | apply pw_below_drewN | apply below_drew1) | exact HB.out)) hb); clear HO_6; clear HO_9; clear HO123; clear HB; have HO_6 := n0_; have HO_9 := n1_; have HO123 := n2_; have HB := n3_; clear n0_ n1_ n2_ n3_; (try clear hb); (try clear hb2); (try clear hk); (try clear hi)))
                                      go_ret2
                                      exact ⟨by first | rfl | (simp [errW_none, errW_some] <;> rfl) | (simp [*, errW_none, errW_some] <;> rfl), by repeat (first | (with_reducible first | exact HB.out | apply below_alloc | apply pw_below_drewN | apply below_drew1) | exact HB.out)⟩
                                    · rw [if_neg c50] at H
                                      have c50b0 : decide (255 < (t124.size : Int)) = false := decide_eq_false c50
                                      have c50b1 : decide (255 < t124.size) = false := decide_eq_false (by omega)
                                      clear c50
                                      simp only [Option.some.injEq, Prod.mk.injEq] at H
                                      obtain ⟨rfl, rfl⟩ := H
                                      have hcv57 := own_string (P := Try.prog) Try.underlying30 Try.underlying5 Try.underlying9 (Kd.own_of_R HO_9.out)
                                      go_wp2_with (first | ((with_reducible refine gate_builtin (b := .append) (xs := #[.tmp 96, .tmp 99]) rfl ?_); (try (refine gate_guard (by rfl) ?_; dsimp only)); at_builtin; refine Kd.R_append Kd.string (w0 := w) w.heap.size rfl (.tmp 96) (.tmp 99) 38 9 (.string ⟨#[]⟩) 16 rfl Try.underlying38 info9 rfl (by decide) (by omega) u8 x8_2 (strOfNums x9_2) [.string (strOfNums x9_2)] (fun k_ => some k_ ≠ (v103 : Value).ownBlock) (fun _ => False) rfl rfl ?aP (fun _ hk => hk.elim) ?aF ?aO ?aB ?aS ?aL ?_; (case aP => exact rfl); (case aB => exact (by repeat (first | (with_reducible first | exact HB.out | apply below_alloc | apply pw_below_drewN | apply below_drew1) | exact HB.out))); (case aF => exact (fun k_ hk => Kd.fresh' (Kd.R_lt (by (with_reducible repeat (first | apply Kd.R_alloc | apply Kd.R_drewN | apply Kd.R_drew)); exact HO_6.out)) k_ hk)); (case aO => exact (by (with_reducible repeat (first | apply Kd.R_alloc | apply Kd.R_drewN | apply Kd.R_drew)); exact HO_8.out)); (case aS => exact (below_size (by repeat (first | (with_reducible first | exact HB.out | apply below_alloc | apply pw_below_drewN | apply below_drew1) | exact HB.out)))); (case aL => have := LMc44.out; omega); intro v119 w58 ho hb hg hat; rw [← Ny118.out] at ho; have n0_ := Aside0.mk (Kd.R_after (ok := (fun _ => True)) (by (with_reducible repeat (first | apply Kd.R_alloc | apply Kd.R_drewN | apply Kd.R_drew)); exact Kd.R_mono HO_6.out (fun _ hk => ⟨trivial, hk⟩)) hg hat); have n1_ := Aside0.mk (Kd.R_over' (by (with_reducible repeat (first | apply Kd.R_alloc | apply Kd.R_drewN | apply Kd.R_drew)); exact HO_9.out) (Kd.R_typed (by (with_reducible repeat (first | apply Kd.R_alloc | apply Kd.R_drewN | apply Kd.R_drew)); exact HO_8.out)) (by decide) hg); have n2_ := Aside0.mk (hb); have n3_ := Aside0.mk (ho); clear HO_6; clear HO_9; clear HB; clear HO_8; have HO_6 := n0_; have HO_9 := n1_; have HB := n2_; have HO120 := n3_; clear n0_ n1_ n2_ n3_; clear ho hb hg hat; obtain ⟨Ao60, co60, eo60⟩ := Kd.R_slice HO_6.out; subst eo60) | ((with_reducible refine gate_builtin (b := .append) (xs := #[.tmp 103, .tmp 104]) rfl ?_); (try (refine gate_guard (by rfl) ?_; dsimp only)); at_builtin; refine Kd.R_append_rows Kd.string (w0 := w) w.heap.size rfl (.tmp 103) (.tmp 104) 38 9 (.string ⟨#[]⟩) 16 rfl Try.underlying38 info9 rfl (by decide) (by omega) v119 y118 t101 _ _ _ (fun k_ => some k_ ≠ (.slice Ao60 t101.length co60 : Value).ownBlock) (fun _ => False) rfl rfl ?aO ?aR (fun _ _ h => h) (fun _ h => h.elim) ?aF ?aB ?aS ?aL ?_; (case aR => repeat (first | exact (Kd.R_reads' HO_6.out).2.2 | (with_reducible refine Kd.C_alloc ?_ _) | (with_reducible refine Kd.C_drewN ?_ _) | (with_reducible refine Kd.C_drew ?_))); (case aB => exact (by repeat (first | (with_reducible first | exact HB.out | apply below_alloc | apply pw_below_drewN | apply below_drew1) | exact HB.out))); (case aF => exact (fun k_ hk => Kd.fresh' (Kd.R_lt (by (with_reducible repeat (first | apply Kd.R_alloc | apply Kd.R_drewN | apply Kd.R_drew)); exact HO_6.out)) k_ hk)); (case aO => exact (by (with_reducible repeat (first | apply Kd.R_alloc | apply Kd.R_drewN | apply Kd.R_drew)); exact HO120.out)); (case aS => exact (below_size (by repeat (first | (with_reducible first | exact HB.out | apply below_alloc | apply pw_below_drewN | apply below_drew1) | exact HB.out)))); (case aL => have := LMc48.out; omega); intro v122 w59 ho hb hg hat; rw [← Ny121.out] at ho; have n0_ := Aside0.mk (Kd.R_after (ok := (fun _ => True)) (by (with_reducible repeat (first | apply Kd.R_alloc | apply Kd.R_drewN | apply Kd.R_drew)); exact HO_6.out) hg hat); have n1_ := Aside0.mk (Kd.R_over' (by (with_reducible repeat (first | apply Kd.R_alloc | apply Kd.R_drewN | apply Kd.R_drew)); exact HO_9.out) (Kd.R_typed (by (with_reducible repeat (first | apply Kd.R_alloc | apply Kd.R_drewN | apply Kd.R_drew)); exact HO120.out)) (by decide) hg); have n2_ := Aside0.mk (hb); have n3_ := Aside0.mk (ho); clear HO_6; clear HO_9; clear HB; clear HO120; have HO_6 := n0_; have HO_9 := n1_; have HB := n2_; have HO123 := n3_; clear n0_ n1_ n2_ n3_; clear ho hb hg hat; obtain ⟨Ao61, co61, eo61⟩ := Kd.R_slice HO123.out; subst eo61) | ((with_reducible refine gate_callee (f := 39) rfl ?_); refine goesL_ (some 107) rfl rfl Try.func39 (by kernel_rfl) rfl #[.slice Ao61 y121.length co61] rfl (by (try simp only [List.map_toArray, List.map_cons, List.map_nil]); first | done | rfl | (simp only [List.length_drop, List.length_take]; rfl)) ?_; (with_reducible refine (impl_joined.calls _ _ y121 t124 _ ?side1 ?side2 A49.out).mono ?_); (case side1 => repeat (first | exact (Kd.R_reads' HO123.out).2.2 | (with_reducible refine Kd.C_alloc ?_ _) | (with_reducible refine Kd.C_drewN ?_ _) | (with_reducible refine Kd.C_drew ?_))); (case side2 => exact (Kd.R_reads' HO123.out).2.1); rintro e w62 ⟨rfl, hb⟩; refine ⟨_, rfl, ?_⟩; have n0_ := Aside0.mk (Kd.R_below (by (with_reducible repeat (first | apply Kd.R_alloc | apply Kd.R_drewN | apply Kd.R_drew)); exact HO_6.out) hb); have n1_ := Aside0.mk (Kd.R_below (by (with_reducible repeat (first | apply Kd.R_alloc | apply Kd.R_drewN | apply Kd.R_drew)); exact HO_9.out) hb); have n2_ := Aside0.mk (Kd.R_below (by (with_reducible repeat (first | apply Kd.R_alloc | apply Kd.R_drewN | apply Kd.R_drew)); exact HO123.out) hb); have n3_ := Aside0.mk (below_step (by repeat (first | (with_reducible first | exact HB.out | apply below_alloc | apply pw_below_drewN | apply below_drew1) | exact HB.out)) hb); clear HO_6; clear HO_9; clear HO123; clear HB; have HO_6 := n0_; have HO_9 := n1_; have HO123 := n2_; have HB := n3_; clear n0_ n1_ n2_ n3_; (try clear hb); (try clear hb2); (try clear hk); (try clear hi)))
                                      go_ret2
                                      exact ⟨by first | rfl | (simp [errW_none, errW_some] <;> rfl) | (simp [*, errW_none, errW_some] <;> rfl), by repeat (first | (with_reducible first | exact HB.out | apply below_alloc | apply pw_below_drewN | apply below_drew1) | exact HB.out)⟩
                                  · rw [if_neg c48] at H
                                    exact absurd H (by simp)
                              · rw [if_neg c44] at H
                                exact absurd H (by simp)

end Go.Proofs.Ytpbmnokmpihnjaa.F
