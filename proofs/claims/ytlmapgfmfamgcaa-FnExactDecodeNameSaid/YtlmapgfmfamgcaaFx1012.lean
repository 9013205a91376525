-- Written by a program of this session (wip/myprint.py, over the kit's print). Not trusted: Lean checks it.
import Derived.Test.YtlmapgfmfamgcaaFx0
namespace Go.Proofs.Ytlmapgfmfamgcaa.F
open Go Go.Shelf Go.RowKit Go.Proofs.YtlmapgfmfamgcaaW.PrintWords Go.Proofs.YtlmapgfmfamgcaaW.PrintLast Go.Proofs.YtlmapgfmfamgcaaW.PrintMore
attribute [local go_sem] max2_int min2_int max_two min_two max_three min_three max_four min_four   -- for this text's walks alone
set_option linter.unusedVariables false
set_option linter.unusedSimpArgs false

/-! ### impl_DecodeName: function 12 -/
mutual
def impl_DecodeName.j0 : Nat → List Int → Int → Bool → Option (ByteArray × Int × Int)
  | 0, _, _, _ => none
  | k + 1, x0, x1, x20 => if x20 = true then (some ((⟨#[]⟩ : ByteArray), 0, 32)) else (impl_DecodeName.l0 k x0 x1 x1 (-1) ([] : List Int))
def impl_DecodeName.l0 : Nat → List Int → Int → Int → Int → List Int → Option (ByteArray × Int × Int)
  | 0, _, _, _, _, _ => none
  | k + 1, x0, x7, x8, x9, x10 => if x7 ≥ (x0.length : Int) then (some ((⟨#[]⟩ : ByteArray), 0, 8)) else (if 0 ≤ x7 then (if x7 < (x0.length : Int) then (if (wrap64 (rd x0 x7)) = 0 then (if x9 < 0 then (if x10.length < 140737488355328 then (some (strOfNums (x10 ++ [0]), wrap64 (x7 + 1), 0)) else (none)) else (if x10.length < 140737488355328 then (some (strOfNums (x10 ++ [0]), x9, 0)) else (none))) else (if (wrap64 (rd x0 x7)) ≤ 63 then (if (wrap64 ((wrap64 (x7 + 1)) + (wrap64 (rd x0 x7)))) > (x0.length : Int) then (some ((⟨#[]⟩ : ByteArray), 0, 8)) else (if x7 ≤ (wrap64 ((wrap64 (x7 + 1)) + (wrap64 (rd x0 x7)))) then (if (wrap64 ((wrap64 (x7 + 1)) + (wrap64 (rd x0 x7)))) ≤ (x0.length : Int) then (if x10.length + ((x0.take ((wrap64 ((wrap64 (x7 + 1)) + (wrap64 (rd x0 x7)))) : Int).toNat).drop (x7 : Int).toNat).length < 140737488355328 then ((some (x10 ++ ((x0.take ((wrap64 ((wrap64 (x7 + 1)) + (wrap64 (rd x0 x7)))) : Int).toNat).drop (x7 : Int).toNat) : List Int)).bind fun y109 => (if (wrap64 ((y109.length : Int) + 1)) > 255 then (some ((⟨#[]⟩ : ByteArray), 0, 3)) else (impl_DecodeName.l0 k x0 (wrap64 (x7 + (wrap64 (1 + (wrap64 (rd x0 x7)))))) x8 x9 y109))) else (none)) else (none)) else (none))) else (if (wrap64 (rd x0 x7)) < 192 then (some ((⟨#[]⟩ : ByteArray), 0, 2)) else (if (wrap64 (x7 + 1)) ≥ (x0.length : Int) then (some ((⟨#[]⟩ : ByteArray), 0, 8)) else (if 0 ≤ (wrap64 (x7 + 1)) then (if (wrap64 (x7 + 1)) < (x0.length : Int) then (if (Go.bits .or .i64 (wrap64 ((Go.bits .and .i64 (wrap64 (rd x0 x7)) 63) * 256)) (wrap64 (rd x0 (wrap64 (x7 + 1))))) ≥ x8 then (some ((⟨#[]⟩ : ByteArray), 0, 9)) else (if x9 < 0 then (impl_DecodeName.l0 k x0 (Go.bits .or .i64 (wrap64 ((Go.bits .and .i64 (wrap64 (rd x0 x7)) 63) * 256)) (wrap64 (rd x0 (wrap64 (x7 + 1))))) (Go.bits .or .i64 (wrap64 ((Go.bits .and .i64 (wrap64 (rd x0 x7)) 63) * 256)) (wrap64 (rd x0 (wrap64 (x7 + 1))))) (wrap64 (x7 + 2)) x10) else (impl_DecodeName.l0 k x0 (Go.bits .or .i64 (wrap64 ((Go.bits .and .i64 (wrap64 (rd x0 x7)) 63) * 256)) (wrap64 (rd x0 (wrap64 (x7 + 1))))) (Go.bits .or .i64 (wrap64 ((Go.bits .and .i64 (wrap64 (rd x0 x7)) 63) * 256)) (wrap64 (rd x0 (wrap64 (x7 + 1))))) x9 x10))) else (none)) else (none)))))) else (none)) else (none))
end
def impl_DecodeName.f (k : Nat) (l0 : List Int) (a1 : Int) : Option (ByteArray × Int × Int) := if a1 < 0 then (impl_DecodeName.j0 k l0 a1 true) else (impl_DecodeName.j0 k l0 a1 (decide (a1 > (l0.length : Int))))
theorem impl_DecodeName.mono_l : ∀ k, (∀ y0 y1 y2, LeO (impl_DecodeName.j0 k y0 y1 y2) (impl_DecodeName.j0 (k + 1) y0 y1 y2)) ∧ (∀ y0 y1 y2 y3 y4, LeO (impl_DecodeName.l0 k y0 y1 y2 y3 y4) (impl_DecodeName.l0 (k + 1) y0 y1 y2 y3 y4))
  | 0 => ⟨fun _ _ _ r h => by simp [impl_DecodeName.j0] at h, fun _ _ _ _ _ r h => by simp [impl_DecodeName.l0] at h⟩
  | k + 1 => by
    obtain ⟨ih0, ih1⟩ := impl_DecodeName.mono_l k
    refine ⟨?_, ?_⟩
    · intro y0 y1 y2
      unfold impl_DecodeName.j0
      repeat' first
      | (with_reducible exact ih0 _ _ _)
      | (with_reducible exact ih1 _ _ _ _ _)
      | (with_reducible exact LeO.refl _)
      | (with_reducible exact LeO.none _)
      | (with_reducible refine LeO.ite ?_ ?_)
      | (with_reducible refine LeO.bind ?_ (fun _ => ?_))
      | exact ih0 _ _ _
      | exact ih1 _ _ _ _ _
      | exact LeO.none _
      | refine LeO.ite ?_ ?_
      | refine LeO.bind ?_ (fun _ => ?_)
    · intro y0 y1 y2 y3 y4
      unfold impl_DecodeName.l0
      repeat' first
      | (with_reducible exact ih0 _ _ _)
      | (with_reducible exact ih1 _ _ _ _ _)
      | (with_reducible exact LeO.refl _)
      | (with_reducible exact LeO.none _)
      | (with_reducible refine LeO.ite ?_ ?_)
      | (with_reducible refine LeO.bind ?_ (fun _ => ?_))
      | exact ih0 _ _ _
      | exact ih1 _ _ _ _ _
      | exact LeO.none _
      | refine LeO.ite ?_ ?_
      | refine LeO.bind ?_ (fun _ => ?_)
theorem impl_DecodeName.mono : ∀ a0 a1 k, LeO (impl_DecodeName.f k a0 a1) (impl_DecodeName.f (k + 1) a0 a1) := by
  intro a0 a1 k
  obtain ⟨ih0, ih1⟩ := impl_DecodeName.mono_l k
  unfold impl_DecodeName.f
  repeat' first
      | (with_reducible exact ih0 _ _ _)
      | (with_reducible exact ih1 _ _ _ _ _)
      | (with_reducible exact LeO.refl _)
      | (with_reducible exact LeO.none _)
      | (with_reducible refine LeO.ite ?_ ?_)
      | (with_reducible refine LeO.bind ?_ (fun _ => ?_))
      | exact ih0 _ _ _
      | exact ih1 _ _ _ _ _
      | exact LeO.none _
      | refine LeO.ite ?_ ?_
      | refine LeO.bind ?_ (fun _ => ?_)
set_option maxHeartbeats 8000000 in
set_option maxRecDepth 100000 in
theorem impl_DecodeName.calls (k : Nat) (A0 : Option Addr) (c0 : Nat) (l0 : List Int) (a1 : Int) (r1 : ByteArray) (r2 : Int) (r3 : Int) (w : World) (hr0 : Kd.C (Kd.int .u8) w A0 l0.length l0) (hc0 : l0.length ≤ c0) (h : impl_DecodeName.f k l0 a1 = some (r1, r2, r3)) :
    Calls Try.prog 12 #[.slice A0 l0.length c0, .int .i64 a1] w fun e w' => e = .returned (.tuple #[.string r1, .int .i64 r2, .int .i64 r3]) ∧ Below w.heap.size w w' := by
  have HR0 := Aside0.mk hr0
  have HC0 := Aside0.mk hc0
  clear hr0 hc0
  have HB := Aside0.mk (Below.refl w.heap.size w)
  have H : (if a1 < 0 then (impl_DecodeName.j0 k l0 a1 true) else (impl_DecodeName.j0 k l0 a1 (decide (a1 > (l0.length : Int))))) = some (r1, r2, r3) := h
  clear h
  have HC3 := Aside0.mk H
  clear H
  go_enter Try.func12, Try.ntmps12
  go_upto_region 1 with (fail)
  go_cut [20] (fun v20 wc => ∃ (kq : Nat) (x20_2 : Bool), v20 = .bool x20_2 ∧ Aside0 (impl_DecodeName.j0 kq l0 a1 x20_2 = some (r1, r2, r3)) ∧ Aside0 (kq ≤ k) ∧ Aside0 (Below w.heap.size w wc))
  case first =>
    have H := HC3.out
    clear HC3
    by_cases c4 : a1 < 0
    · rw [if_pos c4] at H
      have c4b0 : decide (a1 < 0) = true := decide_eq_true c4
      clear c4
      (first | rw [c4b0] | (simp only [i64_w, i32_w]; rw [c4b0]) | skip)
      have H' := Aside0.mk H
      clear H
      go_wp2
      go_meet
      case rel => exact ⟨_, (true), (by first | rfl | (simp; done) | (simp [*]; done)), H', ⟨by first | omega | exact Nat.le_refl _⟩, ⟨by repeat (first | (with_reducible first | exact HB.out | apply below_alloc | apply pw_below_drewN | apply below_drew1) | exact HB.out)⟩⟩
    · rw [if_neg c4] at H
      have c4b0 : decide (a1 < 0) = false := decide_eq_false c4
      clear c4
      (first | rw [c4b0] | (simp only [i64_w, i32_w]; rw [c4b0]) | skip)
      have H' := Aside0.mk H
      clear H
      go_wp2
      go_meet
      case rel => exact ⟨_, (decide (a1 > (l0.length : Int))), (by first | rfl | (simp; done) | (simp [*]; done)), H', ⟨by first | omega | exact Nat.le_refl _⟩, ⟨by repeat (first | (with_reducible first | exact HB.out | apply below_alloc | apply pw_below_drewN | apply below_drew1) | exact HB.out)⟩⟩
  case rest =>
    clear HC3
    try clear c1
    try clear p2
    try clear c4
    try clear c4b0
    obtain ⟨kq, x20_2, rfl, HA, HJ2, HB⟩ := hcut
    cases kq with
    | zero => exact absurd HA.out (by simp [impl_DecodeName.j0])
    | succ kj2 =>
      have H := HA.out
      clear HA
      simp only [impl_DecodeName.j0] at H
      by_cases c5 : x20_2 = true
      · subst c5
        have H1 : (some ((⟨#[]⟩ : ByteArray), 0, 32)) = some (r1, r2, r3) := by rw [if_pos rfl] at H; exact H
        clear H
        have H := H1
        clear H1
        simp only [Option.some.injEq, Prod.mk.injEq] at H
        obtain ⟨rfl, rfl, rfl⟩ := H
        go_wp2
        go_ret3
        exact ⟨by first | rfl | (simp [errW_none, errW_some] <;> rfl) | (simp [*, errW_none, errW_some] <;> rfl), by repeat (first | (with_reducible first | exact HB.out | apply below_alloc | apply pw_below_drewN | apply below_drew1) | exact HB.out)⟩
      · replace c5 := Bool.eq_false_iff.mpr c5
        subst c5
        have H1 : (impl_DecodeName.l0 kj2 l0 a1 a1 (-1) ([] : List Int)) = some (r1, r2, r3) := by rw [if_neg (show ¬ (false = true) by decide)] at H; exact H
        clear H
        have H := H1
        clear H1
        have H' := Aside0.mk H
        clear H
        go_wp2
        go_loopg [7, 8, 9, 10] kj2 (fun kq v7 v8 v9 v10 w' => ∃ (x7_2 : Int) (x8_2 : Int) (x9_2 : Int) (x10_2 : List Int), v7 = .int .i64 x7_2 ∧ v8 = .int .i64 x8_2 ∧ v9 = .int .i64 x9_2 ∧ Aside0 (impl_DecodeName.l0 kq l0 x7_2 x8_2 x9_2 x10_2 = some (r1, r2, r3)) ∧ Aside0 (kq ≤ kj2) ∧ Aside0 (Kd.R (Kd.int .u8) 5 w' w.heap.size (fun _ => True) v10 x10_2) ∧ Aside0 (Below w.heap.size w w'))
        case atStart => exact ⟨(a1), (a1), ((-1)), (([] : List Int)), (by first | rfl | (simp; done) | (simp [*]; done)), (by first | rfl | (simp; done) | (simp [*]; done)), (by first | rfl | (simp; done) | (simp [*]; done)), H', ⟨Nat.le_refl _⟩, ⟨by first | exact Kd.R_nil _ _ _ _ _ | exact Kd.N_nil _ _ _ _ _ | exact Kd.V_nil _ _ _ _ _ | exact Kd.Q_nil _ _ _ _ _ | exact Kd.S_nil _ _ _ _ _⟩, ⟨by repeat (first | (with_reducible first | exact HB.out | apply below_alloc | apply pw_below_drewN | apply below_drew1) | exact HB.out)⟩⟩
        case round =>
          clear H'
          try clear c1
          try clear p2
          try clear c4
          try clear c4b0
          try clear c5
          try clear p2
          obtain ⟨x7_2, x8_2, x9_2, x10_2, rfl, rfl, rfl, HA, HK2, HO_10, HB⟩ := hrel
          cases gk with
          | zero => exact absurd HA.out (by simp [impl_DecodeName.l0])
          | succ k2 =>
            have H := HA.out
            clear HA
            simp only [impl_DecodeName.l0] at H
            by_cases c6 : x7_2 ≥ (l0.length : Int)
            · rw [if_pos c6] at H
              have c6b0 : decide ((l0.length : Int) ≤ x7_2) = true := decide_eq_true c6
              clear c6
              simp only [Option.some.injEq, Prod.mk.injEq] at H
              obtain ⟨rfl, rfl, rfl⟩ := H
              go_wp2
              go_ret3
              exact ⟨by first | rfl | (simp [errW_none, errW_some] <;> rfl) | (simp [*, errW_none, errW_some] <;> rfl), by repeat (first | (with_reducible first | exact HB.out | apply below_alloc | apply pw_below_drewN | apply below_drew1) | exact HB.out)⟩
            · rw [if_neg c6] at H
              have c6b0 : decide ((l0.length : Int) ≤ x7_2) = false := decide_eq_false c6
              clear c6
              by_cases c7 : 0 ≤ x7_2
              · rw [if_pos c7] at H
                have c7b0 : decide (0 ≤ x7_2) = true := decide_eq_true c7
                clear c7
                by_cases c8 : x7_2 < (l0.length : Int)
                · rw [if_pos c8] at H
                  have c8b0 : decide (x7_2 < (l0.length : Int)) = true := decide_eq_true c8
                  clear c8
                  by_cases c9 : (wrap64 (rd l0 x7_2)) = 0
                  · rw [if_pos c9] at H
                    have c9b0 : ((wrap64 (rd l0 x7_2)) == 0) = true := beq_iff_eq.mpr c9
                    have c9b1 : ((wrap64 (rd l0 x7_2)) != 0) = false := bne_eq_false_iff_eq.mpr c9
                    clear c9
                    by_cases c10 : x9_2 < 0
                    · rw [if_pos c10] at H
                      have c10b0 : decide (x9_2 < 0) = true := decide_eq_true c10
                      clear c10
                      by_cases c11 : x10_2.length < 140737488355328
                      · rw [if_pos c11] at H
                        have LMc11 := Aside0.mk c11
                        clear c11
                        obtain ⟨y102, hy102⟩ : ∃ y_ : List Int, y_ = (x10_2 ++ [0]) := ⟨_, rfl⟩
                        replace H : (some (strOfNums y102, wrap64 (x7_2 + 1), 0)) = some (r1, r2, r3) := by first | (rw [hy102]; with_reducible exact H) | (have H2_ := (Option.bind_some _ _).symm.trans H; rw [hy102]; with_reducible exact H2_) | (have H2_ := (Option.bind_some _ _).symm.trans H; with_reducible exact H2_) | with_reducible exact H | (rw [hy102]; exact H) | exact H
                        have Ny102 := Aside0.mk hy102
                        clear hy102
                        simp only [Option.some.injEq, Prod.mk.injEq] at H
                        obtain ⟨rfl, rfl, rfl⟩ := H
                        have p101 : 0 ≤ (x7_2 : Int) := of_decide_eq_true (by first | (with_reducible assumption) | assumption)
                        have q101 : x7_2 < (l0.length : Int) := of_decide_eq_true (by first | (with_reducible assumption) | assumption)
                        obtain ⟨ad101, e101, hx101_0⟩ := Kd.at_int HR0.out x7_2 p101 q101
                        cases e101
                        replace hx101_0 := (HB.out.cell (World.block_lt_of_cell? w _ hx101_0)).trans hx101_0
                        replace p101 := eq_true p101
                        replace q101 := eq_true q101
                        go_wp2_with (first | ((with_reducible refine gate_builtin (b := .append) (xs := #[.tmp 63, .tmp 64]) rfl ?_); (try (refine gate_guard (by rfl) ?_; dsimp only)); at_builtin; refine Kd.R_append (Kd.int .u8) (w0 := w) w.heap.size rfl (.tmp 63) (.tmp 64) 22 5 (.int .u8 0) 1 rfl Try.underlying22 info5 rfl (by decide) (by omega) u10 x10_2 0 [.int .u8 0] (fun _ => True) (fun _ => False) rfl rfl ?aP (fun _ hk => hk.elim) ?aF ?aO ?aB ?aS ?aL ?_; (case aP => exact rfl); (case aB => exact (by repeat (first | (with_reducible first | exact HB.out | apply below_alloc | apply pw_below_drewN | apply below_drew1) | exact HB.out))); (case aF => exact (fun _ _ => trivial)); (case aO => exact (by (with_reducible repeat (first | apply Kd.R_alloc | apply Kd.R_drewN | apply Kd.R_drew)); exact HO_10.out)); (case aS => exact (below_size (by repeat (first | (with_reducible first | exact HB.out | apply below_alloc | apply pw_below_drewN | apply below_drew1) | exact HB.out)))); (case aL => have := LMc11.out; omega); intro v103 w12 ho hb hg hat; rw [← Ny102.out] at ho; have n0_ := Aside0.mk (hb); have n1_ := Aside0.mk (ho); clear HB; clear HO_10; have HB := n0_; have HO104 := n1_; clear n0_ n1_; clear ho hb hg hat; have hcv13 := own_string (P := Try.prog) Try.underlying22 Try.underlying5 Try.underlying9 (Kd.own_of_R HO104.out)))
                        go_ret3
                        exact ⟨by first | rfl | (simp [errW_none, errW_some] <;> rfl) | (simp [*, errW_none, errW_some] <;> rfl), by repeat (first | (with_reducible first | exact HB.out | apply below_alloc | apply pw_below_drewN | apply below_drew1) | exact HB.out)⟩
                      · rw [if_neg c11] at H
                        exact absurd H (by simp)
                    · rw [if_neg c10] at H
                      have c10b0 : decide (x9_2 < 0) = false := decide_eq_false c10
                      clear c10
                      by_cases c14 : x10_2.length < 140737488355328
                      · rw [if_pos c14] at H
                        have LMc14 := Aside0.mk c14
                        clear c14
                        obtain ⟨y105, hy105⟩ : ∃ y_ : List Int, y_ = (x10_2 ++ [0]) := ⟨_, rfl⟩
                        replace H : (some (strOfNums y105, x9_2, 0)) = some (r1, r2, r3) := by first | (rw [hy105]; with_reducible exact H) | (have H2_ := (Option.bind_some _ _).symm.trans H; rw [hy105]; with_reducible exact H2_) | (have H2_ := (Option.bind_some _ _).symm.trans H; with_reducible exact H2_) | with_reducible exact H | (rw [hy105]; exact H) | exact H
                        have Ny105 := Aside0.mk hy105
                        clear hy105
                        simp only [Option.some.injEq, Prod.mk.injEq] at H
                        obtain ⟨rfl, rfl, rfl⟩ := H
                        have p101 : 0 ≤ (x7_2 : Int) := of_decide_eq_true (by first | (with_reducible assumption) | assumption)
                        have q101 : x7_2 < (l0.length : Int) := of_decide_eq_true (by first | (with_reducible assumption) | assumption)
                        obtain ⟨ad101, e101, hx101_0⟩ := Kd.at_int HR0.out x7_2 p101 q101
                        cases e101
                        replace hx101_0 := (HB.out.cell (World.block_lt_of_cell? w _ hx101_0)).trans hx101_0
                        replace p101 := eq_true p101
                        replace q101 := eq_true q101
                        go_wp2_with (first | ((with_reducible refine gate_builtin (b := .append) (xs := #[.tmp 63, .tmp 64]) rfl ?_); (try (refine gate_guard (by rfl) ?_; dsimp only)); at_builtin; refine Kd.R_append (Kd.int .u8) (w0 := w) w.heap.size rfl (.tmp 63) (.tmp 64) 22 5 (.int .u8 0) 1 rfl Try.underlying22 info5 rfl (by decide) (by omega) u10 x10_2 0 [.int .u8 0] (fun _ => True) (fun _ => False) rfl rfl ?aP (fun _ hk => hk.elim) ?aF ?aO ?aB ?aS ?aL ?_; (case aP => exact rfl); (case aB => exact (by repeat (first | (with_reducible first | exact HB.out | apply below_alloc | apply pw_below_drewN | apply below_drew1) | exact HB.out))); (case aF => exact (fun _ _ => trivial)); (case aO => exact (by (with_reducible repeat (first | apply Kd.R_alloc | apply Kd.R_drewN | apply Kd.R_drew)); exact HO_10.out)); (case aS => exact (below_size (by repeat (first | (with_reducible first | exact HB.out | apply below_alloc | apply pw_below_drewN | apply below_drew1) | exact HB.out)))); (case aL => have := LMc14.out; omega); intro v106 w15 ho hb hg hat; rw [← Ny105.out] at ho; have n0_ := Aside0.mk (hb); have n1_ := Aside0.mk (ho); clear HB; clear HO_10; have HB := n0_; have HO107 := n1_; clear n0_ n1_; clear ho hb hg hat; have hcv16 := own_string (P := Try.prog) Try.underlying22 Try.underlying5 Try.underlying9 (Kd.own_of_R HO107.out)))
                        go_ret3
                        exact ⟨by first | rfl | (simp [errW_none, errW_some] <;> rfl) | (simp [*, errW_none, errW_some] <;> rfl), by repeat (first | (with_reducible first | exact HB.out | apply below_alloc | apply pw_below_drewN | apply below_drew1) | exact HB.out)⟩
                      · rw [if_neg c14] at H
                        exact absurd H (by simp)
                  · rw [if_neg c9] at H
                    have c9b0 : ((wrap64 (rd l0 x7_2)) == 0) = false := beq_eq_false_iff_ne.mpr c9
                    have c9b1 : ((wrap64 (rd l0 x7_2)) != 0) = true := bne_iff_ne.mpr c9
                    by_cases c17 : (wrap64 (rd l0 x7_2)) ≤ 63
                    · rw [if_pos c17] at H
                      have c17b0 : decide ((wrap64 (rd l0 x7_2)) ≤ 63) = true := decide_eq_true c17
                      clear c17
                      by_cases c18 : (wrap64 ((wrap64 (x7_2 + 1)) + (wrap64 (rd l0 x7_2)))) > (l0.length : Int)
                      · rw [if_pos c18] at H
                        have c18b0 : decide ((l0.length : Int) < (wrap64 ((wrap64 (x7_2 + 1)) + (wrap64 (rd l0 x7_2))))) = true := decide_eq_true c18
                        clear c18
                        simp only [Option.some.injEq, Prod.mk.injEq] at H
                        obtain ⟨rfl, rfl, rfl⟩ := H
                        have p101 : 0 ≤ (x7_2 : Int) := of_decide_eq_true (by first | (with_reducible assumption) | assumption)
                        have q101 : x7_2 < (l0.length : Int) := of_decide_eq_true (by first | (with_reducible assumption) | assumption)
                        obtain ⟨ad101, e101, hx101_0⟩ := Kd.at_int HR0.out x7_2 p101 q101
                        cases e101
                        replace hx101_0 := (HB.out.cell (World.block_lt_of_cell? w _ hx101_0)).trans hx101_0
                        replace p101 := eq_true p101
                        replace q101 := eq_true q101
                        go_wp2
                        go_ret3
                        exact ⟨by first | rfl | (simp [errW_none, errW_some] <;> rfl) | (simp [*, errW_none, errW_some] <;> rfl), by repeat (first | (with_reducible first | exact HB.out | apply below_alloc | apply pw_below_drewN | apply below_drew1) | exact HB.out)⟩
                      · rw [if_neg c18] at H
                        have c18b0 : decide ((l0.length : Int) < (wrap64 ((wrap64 (x7_2 + 1)) + (wrap64 (rd l0 x7_2))))) = false := decide_eq_false c18
                        clear c18
                        have c19b0 := eq_true (of_decide_eq_true (by first | (with_reducible assumption) | assumption) : 0 ≤ x7_2)
                        by_cases c20 : x7_2 ≤ (wrap64 ((wrap64 (x7_2 + 1)) + (wrap64 (rd l0 x7_2))))
                        · rw [if_pos c20] at H
                          have c20b0 := eq_true c20
                          have c20b1 : decide (x7_2 ≤ (wrap64 ((wrap64 (x7_2 + 1)) + (wrap64 (rd l0 x7_2))))) = true := decide_eq_true c20
                          by_cases c21 : (wrap64 ((wrap64 (x7_2 + 1)) + (wrap64 (rd l0 x7_2)))) ≤ (l0.length : Int)
                          · rw [if_pos c21] at H
                            have c21b0 := eq_true c21
                            have c21b1 : decide ((wrap64 ((wrap64 (x7_2 + 1)) + (wrap64 (rd l0 x7_2)))) ≤ (l0.length : Int)) = true := decide_eq_true c21
                            by_cases c22 : x10_2.length + ((l0.take ((wrap64 ((wrap64 (x7_2 + 1)) + (wrap64 (rd l0 x7_2)))) : Int).toNat).drop (x7_2 : Int).toNat).length < 140737488355328
                            · rw [if_pos c22] at H
                              have LMc22 := Aside0.mk c22
                              clear c22
                              obtain ⟨y109, hy109⟩ : ∃ y_ : List Int, y_ = (x10_2 ++ ((l0.take ((wrap64 ((wrap64 (x7_2 + 1)) + (wrap64 (rd l0 x7_2)))) : Int).toNat).drop (x7_2 : Int).toNat)) := ⟨_, rfl⟩
                              replace H : (if (wrap64 ((y109.length : Int) + 1)) > 255 then (some ((⟨#[]⟩ : ByteArray), 0, 3)) else (impl_DecodeName.l0 k2 l0 (wrap64 (x7_2 + (wrap64 (1 + (wrap64 (rd l0 x7_2)))))) x8_2 x9_2 y109)) = some (r1, r2, r3) := by first | (rw [hy109]; with_reducible exact H) | (have H2_ := (Option.bind_some _ _).symm.trans H; rw [hy109]; with_reducible exact H2_) | (have H2_ := (Option.bind_some _ _).symm.trans H; with_reducible exact H2_) | with_reducible exact H | (rw [hy109]; exact H) | exact H
                              have Ny109 := Aside0.mk hy109
                              clear hy109
                              by_cases c23 : (wrap64 ((y109.length : Int) + 1)) > 255
                              · rw [if_pos c23] at H
                                have c23b0 : decide (255 < (wrap64 ((y109.length : Int) + 1))) = true := decide_eq_true c23
                                clear c23
                                simp only [Option.some.injEq, Prod.mk.injEq] at H
                                obtain ⟨rfl, rfl, rfl⟩ := H
                                have p101 : 0 ≤ (x7_2 : Int) := of_decide_eq_true (by first | (with_reducible assumption) | assumption)
                                have q101 : x7_2 < (l0.length : Int) := of_decide_eq_true (by first | (with_reducible assumption) | assumption)
                                obtain ⟨ad101, e101, hx101_0⟩ := Kd.at_int HR0.out x7_2 p101 q101
                                cases e101
                                replace hx101_0 := (HB.out.cell (World.block_lt_of_cell? w _ hx101_0)).trans hx101_0
                                replace p101 := eq_true p101
                                replace q101 := eq_true q101
                                obtain ⟨i024, hi024, _, hsz24, _⟩ := info_parts info5
                                obtain ⟨A24, hcut24, hA24, hC24⟩ := print_mid_of (P := Try.prog) (Value.int .u8) 0 22 5 .i64 .i64 Try.underlying22 hi024 hsz24 (some ad101) c0 l0 x7_2 (wrap64 ((wrap64 (x7_2 + 1)) + (wrap64 (rd l0 x7_2)))) (of_decide_eq_true (by first | (with_reducible assumption) | assumption)) (by first | omega | exact of_decide_eq_true (by first | (with_reducible assumption) | assumption)) (of_decide_eq_true (by first | (with_reducible assumption) | assumption)) HC0.out
                                have HR108 := Aside0.mk (Kd.C_of_reads (h1 := fun _ => rfl) (hA24 _ (Kd.reads_of_C HR0.out)))
                                have HC108 := Aside0.mk hC24
                                clear hA24 hC24 hi024 hsz24
                                go_wp2_with (first | ((with_reducible refine gate_builtin (b := .append) (xs := #[.tmp 78, .tmp 85]) rfl ?_); (try (refine gate_guard (by rfl) ?_; dsimp only)); at_builtin; refine Kd.R_append_rows (Kd.int .u8) (w0 := w) w.heap.size rfl (.tmp 78) (.tmp 85) 22 5 (.int .u8 0) 1 rfl Try.underlying22 info5 rfl (by decide) (by omega) u10 x10_2 ((l0.take ((wrap64 ((wrap64 (x7_2 + 1)) + (wrap64 (rd l0 x7_2)))) : Int).toNat).drop (x7_2 : Int).toNat) _ _ _ (fun _ => True) (fun _ => False) rfl rfl ?aO ?aR (fun _ _ h => h) (fun _ h => h.elim) ?aF ?aB ?aS ?aL ?_; (case aR => first | (rw [← show ((l0.take ((wrap64 ((wrap64 (x7_2 + 1)) + (wrap64 (rd l0 x7_2)))) : Int).toNat).drop (x7_2 : Int).toNat).length = ((wrap64 ((wrap64 (x7_2 + 1)) + (wrap64 (rd l0 x7_2)))).toNat - x7_2.toNat) from (by rw [List.length_drop, List.length_take]; have h_ : ((wrap64 ((wrap64 (x7_2 + 1)) + (wrap64 (rd l0 x7_2)))) : Int) ≤ (l0.length : Int) := of_decide_eq_true (by first | (with_reducible assumption) | assumption); omega)]; repeat (first | exact (Kd.C_below HR108.out HB.out) | (with_reducible refine Kd.C_alloc ?_ _) | (with_reducible refine Kd.C_drewN ?_ _) | (with_reducible refine Kd.C_drew ?_))) | (repeat (first | exact (Kd.C_below HR108.out HB.out) | (with_reducible refine Kd.C_alloc ?_ _) | (with_reducible refine Kd.C_drewN ?_ _) | (with_reducible refine Kd.C_drew ?_)))); (case aB => exact (by repeat (first | (with_reducible first | exact HB.out | apply below_alloc | apply pw_below_drewN | apply below_drew1) | exact HB.out))); (case aF => exact (fun _ _ => trivial)); (case aO => exact (by (with_reducible repeat (first | apply Kd.R_alloc | apply Kd.R_drewN | apply Kd.R_drew)); exact HO_10.out)); (case aS => exact (below_size (by repeat (first | (with_reducible first | exact HB.out | apply below_alloc | apply pw_below_drewN | apply below_drew1) | exact HB.out)))); (case aL => have := LMc22.out; have hlx_ := (show ((l0.take ((wrap64 ((wrap64 (x7_2 + 1)) + (wrap64 (rd l0 x7_2)))) : Int).toNat).drop (x7_2 : Int).toNat).length = ((wrap64 ((wrap64 (x7_2 + 1)) + (wrap64 (rd l0 x7_2)))).toNat - x7_2.toNat) from (by rw [List.length_drop, List.length_take]; have h_ : ((wrap64 ((wrap64 (x7_2 + 1)) + (wrap64 (rd l0 x7_2)))) : Int) ≤ (l0.length : Int) := of_decide_eq_true (by first | (with_reducible assumption) | assumption); omega)); omega); intro v110 w25 ho hb hg hat; rw [← Ny109.out] at ho; have n0_ := Aside0.mk (hb); have n1_ := Aside0.mk (ho); clear HB; clear HO_10; have HB := n0_; have HO111 := n1_; clear n0_ n1_; clear ho hb hg hat; obtain ⟨Ao26, co26, eo26⟩ := Kd.R_slice HO111.out; subst eo26))
                                go_ret3
                                exact ⟨by first | rfl | (simp [errW_none, errW_some] <;> rfl) | (simp [*, errW_none, errW_some] <;> rfl), by repeat (first | (with_reducible first | exact HB.out | apply below_alloc | apply pw_below_drewN | apply below_drew1) | exact HB.out)⟩
                              · rw [if_neg c23] at H
                                have c23b0 : decide (255 < (wrap64 ((y109.length : Int) + 1))) = false := decide_eq_false c23
                                clear c23
                                have H' := Aside0.mk H
                                clear H
                                have p101 : 0 ≤ (x7_2 : Int) := of_decide_eq_true (by first | (with_reducible assumption) | assumption)
                                have q101 : x7_2 < (l0.length : Int) := of_decide_eq_true (by first | (with_reducible assumption) | assumption)
                                obtain ⟨ad101, e101, hx101_0⟩ := Kd.at_int HR0.out x7_2 p101 q101
                                cases e101
                                replace hx101_0 := (HB.out.cell (World.block_lt_of_cell? w _ hx101_0)).trans hx101_0
                                replace p101 := eq_true p101
                                replace q101 := eq_true q101
                                obtain ⟨i027, hi027, _, hsz27, _⟩ := info_parts info5
                                obtain ⟨A27, hcut27, hA27, hC27⟩ := print_mid_of (P := Try.prog) (Value.int .u8) 0 22 5 .i64 .i64 Try.underlying22 hi027 hsz27 (some ad101) c0 l0 x7_2 (wrap64 ((wrap64 (x7_2 + 1)) + (wrap64 (rd l0 x7_2)))) (of_decide_eq_true (by first | (with_reducible assumption) | assumption)) (by first | omega | exact of_decide_eq_true (by first | (with_reducible assumption) | assumption)) (of_decide_eq_true (by first | (with_reducible assumption) | assumption)) HC0.out
                                have HR108 := Aside0.mk (Kd.C_of_reads (h1 := fun _ => rfl) (hA27 _ (Kd.reads_of_C HR0.out)))
                                have HC108 := Aside0.mk hC27
                                clear hA27 hC27 hi027 hsz27
                                go_wp2_with (first | ((with_reducible refine gate_builtin (b := .append) (xs := #[.tmp 78, .tmp 85]) rfl ?_); (try (refine gate_guard (by rfl) ?_; dsimp only)); at_builtin; refine Kd.R_append_rows (Kd.int .u8) (w0 := w) w.heap.size rfl (.tmp 78) (.tmp 85) 22 5 (.int .u8 0) 1 rfl Try.underlying22 info5 rfl (by decide) (by omega) u10 x10_2 ((l0.take ((wrap64 ((wrap64 (x7_2 + 1)) + (wrap64 (rd l0 x7_2)))) : Int).toNat).drop (x7_2 : Int).toNat) _ _ _ (fun _ => True) (fun _ => False) rfl rfl ?aO ?aR (fun _ _ h => h) (fun _ h => h.elim) ?aF ?aB ?aS ?aL ?_; (case aR => first | (rw [← show ((l0.take ((wrap64 ((wrap64 (x7_2 + 1)) + (wrap64 (rd l0 x7_2)))) : Int).toNat).drop (x7_2 : Int).toNat).length = ((wrap64 ((wrap64 (x7_2 + 1)) + (wrap64 (rd l0 x7_2)))).toNat - x7_2.toNat) from (by rw [List.length_drop, List.length_take]; have h_ : ((wrap64 ((wrap64 (x7_2 + 1)) + (wrap64 (rd l0 x7_2)))) : Int) ≤ (l0.length : Int) := of_decide_eq_true (by first | (with_reducible assumption) | assumption); omega)]; repeat (first | exact (Kd.C_below HR108.out HB.out) | (with_reducible refine Kd.C_alloc ?_ _) | (with_reducible refine Kd.C_drewN ?_ _) | (with_reducible refine Kd.C_drew ?_))) | (repeat (first | exact (Kd.C_below HR108.out HB.out) | (with_reducible refine Kd.C_alloc ?_ _) | (with_reducible refine Kd.C_drewN ?_ _) | (with_reducible refine Kd.C_drew ?_)))); (case aB => exact (by repeat (first | (with_reducible first | exact HB.out | apply below_alloc | apply pw_below_drewN | apply below_drew1) | exact HB.out))); (case aF => exact (fun _ _ => trivial)); (case aO => exact (by (with_reducible repeat (first | apply Kd.R_alloc | apply Kd.R_drewN | apply Kd.R_drew)); exact HO_10.out)); (case aS => exact (below_size (by repeat (first | (with_reducible first | exact HB.out | apply below_alloc | apply pw_below_drewN | apply below_drew1) | exact HB.out)))); (case aL => have := LMc22.out; have hlx_ := (show ((l0.take ((wrap64 ((wrap64 (x7_2 + 1)) + (wrap64 (rd l0 x7_2)))) : Int).toNat).drop (x7_2 : Int).toNat).length = ((wrap64 ((wrap64 (x7_2 + 1)) + (wrap64 (rd l0 x7_2)))).toNat - x7_2.toNat) from (by rw [List.length_drop, List.length_take]; have h_ : ((wrap64 ((wrap64 (x7_2 + 1)) + (wrap64 (rd l0 x7_2)))) : Int) ≤ (l0.length : Int) := of_decide_eq_true (by first | (with_reducible assumption) | assumption); omega)); omega); intro v110 w28 ho hb hg hat; rw [← Ny109.out] at ho; have n0_ := Aside0.mk (hb); have n1_ := Aside0.mk (ho); clear HB; clear HO_10; have HB := n0_; have HO111 := n1_; clear n0_ n1_; clear ho hb hg hat; obtain ⟨Ao29, co29, eo29⟩ := Kd.R_slice HO111.out; subst eo29))
                                go_roundg k2
                                case measure => have := HJ2.out; have := HK2.out; omega
                                case rel => exact ⟨(wrap64 (x7_2 + (wrap64 (1 + (wrap64 (rd l0 x7_2)))))), (x8_2), (x9_2), (y109), (by first | rfl | (simp; done) | (simp [*]; done)), (by first | rfl | (simp; done) | (simp [*]; done)), (by first | rfl | (simp; done) | (simp [*]; done)), H', ⟨by have := HJ2.out; have := HK2.out; omega⟩, ⟨by (with_reducible repeat (first | apply Kd.R_alloc | apply Kd.R_drewN | apply Kd.R_drew)); exact HO111.out⟩, ⟨by repeat (first | (with_reducible first | exact HB.out | apply below_alloc | apply pw_below_drewN | apply below_drew1) | exact HB.out)⟩⟩
                            · rw [if_neg c22] at H
                              exact absurd H (by simp)
                          · rw [if_neg c21] at H
                            exact absurd H (by simp)
                        · rw [if_neg c20] at H
                          exact absurd H (by simp)
                    · rw [if_neg c17] at H
                      have c17b0 : decide ((wrap64 (rd l0 x7_2)) ≤ 63) = false := decide_eq_false c17
                      clear c17
                      by_cases c30 : (wrap64 (rd l0 x7_2)) < 192
                      · rw [if_pos c30] at H
                        have c30b0 : decide ((wrap64 (rd l0 x7_2)) < 192) = true := decide_eq_true c30
                        clear c30
                        simp only [Option.some.injEq, Prod.mk.injEq] at H
                        obtain ⟨rfl, rfl, rfl⟩ := H
                        have p101 : 0 ≤ (x7_2 : Int) := of_decide_eq_true (by first | (with_reducible assumption) | assumption)
                        have q101 : x7_2 < (l0.length : Int) := of_decide_eq_true (by first | (with_reducible assumption) | assumption)
                        obtain ⟨ad101, e101, hx101_0⟩ := Kd.at_int HR0.out x7_2 p101 q101
                        cases e101
                        replace hx101_0 := (HB.out.cell (World.block_lt_of_cell? w _ hx101_0)).trans hx101_0
                        replace p101 := eq_true p101
                        replace q101 := eq_true q101
                        go_wp2
                        go_ret3
                        exact ⟨by first | rfl | (simp [errW_none, errW_some] <;> rfl) | (simp [*, errW_none, errW_some] <;> rfl), by repeat (first | (with_reducible first | exact HB.out | apply below_alloc | apply pw_below_drewN | apply below_drew1) | exact HB.out)⟩
                      · rw [if_neg c30] at H
                        have c30b0 : decide ((wrap64 (rd l0 x7_2)) < 192) = false := decide_eq_false c30
                        clear c30
                        by_cases c31 : (wrap64 (x7_2 + 1)) ≥ (l0.length : Int)
                        · rw [if_pos c31] at H
                          have c31b0 : decide ((l0.length : Int) ≤ (wrap64 (x7_2 + 1))) = true := decide_eq_true c31
                          clear c31
                          simp only [Option.some.injEq, Prod.mk.injEq] at H
                          obtain ⟨rfl, rfl, rfl⟩ := H
                          have p101 : 0 ≤ (x7_2 : Int) := of_decide_eq_true (by first | (with_reducible assumption) | assumption)
                          have q101 : x7_2 < (l0.length : Int) := of_decide_eq_true (by first | (with_reducible assumption) | assumption)
                          obtain ⟨ad101, e101, hx101_0⟩ := Kd.at_int HR0.out x7_2 p101 q101
                          cases e101
                          replace hx101_0 := (HB.out.cell (World.block_lt_of_cell? w _ hx101_0)).trans hx101_0
                          replace p101 := eq_true p101
                          replace q101 := eq_true q101
                          go_wp2
                          go_ret3
                          exact ⟨by first | rfl | (simp [errW_none, errW_some] <;> rfl) | (simp [*, errW_none, errW_some] <;> rfl), by repeat (first | (with_reducible first | exact HB.out | apply below_alloc | apply pw_below_drewN | apply below_drew1) | exact HB.out)⟩
                        · rw [if_neg c31] at H
                          have c31b0 : decide ((l0.length : Int) ≤ (wrap64 (x7_2 + 1))) = false := decide_eq_false c31
                          clear c31
                          obtain ⟨ji32, hji32⟩ : ∃ j_ : Int, (wrap64 (x7_2 + 1)) = j_ := ⟨_, rfl⟩
                          replace H : (if 0 ≤ (ji32) then (if (ji32) < (l0.length : Int) then (if (Go.bits .or .i64 (wrap64 ((Go.bits .and .i64 (wrap64 (rd l0 x7_2)) 63) * 256)) (wrap64 (rd l0 (ji32)))) ≥ x8_2 then (some ((⟨#[]⟩ : ByteArray), 0, 9)) else (if x9_2 < 0 then (impl_DecodeName.l0 k2 l0 (Go.bits .or .i64 (wrap64 ((Go.bits .and .i64 (wrap64 (rd l0 x7_2)) 63) * 256)) (wrap64 (rd l0 (ji32)))) (Go.bits .or .i64 (wrap64 ((Go.bits .and .i64 (wrap64 (rd l0 x7_2)) 63) * 256)) (wrap64 (rd l0 (ji32)))) (wrap64 (x7_2 + 2)) x10_2) else (impl_DecodeName.l0 k2 l0 (Go.bits .or .i64 (wrap64 ((Go.bits .and .i64 (wrap64 (rd l0 x7_2)) 63) * 256)) (wrap64 (rd l0 (ji32)))) (Go.bits .or .i64 (wrap64 ((Go.bits .and .i64 (wrap64 (rd l0 x7_2)) 63) * 256)) (wrap64 (rd l0 (ji32)))) x9_2 x10_2))) else (none)) else (none)) = some (r1, r2, r3) := by first | (rw [hji32] at H; exact H) | (simp only [hji32] at H ⊢; exact H)
                          (try rw [hji32] at c31b0)
                          have hji32w : (IntKind.i64.wrap (x7_2 + 1)) = ji32 := (i64_w _).trans hji32
                          by_cases c33 : 0 ≤ (ji32)
                          · rw [if_pos c33] at H
                            have c33b0 : decide (0 ≤ (ji32)) = true := decide_eq_true c33
                            clear c33
                            by_cases c34 : (ji32) < (l0.length : Int)
                            · rw [if_pos c34] at H
                              have c34b0 : decide ((ji32) < (l0.length : Int)) = true := decide_eq_true c34
                              clear c34
                              by_cases c35 : (Go.bits .or .i64 (wrap64 ((Go.bits .and .i64 (wrap64 (rd l0 x7_2)) 63) * 256)) (wrap64 (rd l0 (ji32)))) ≥ x8_2
                              · rw [if_pos c35] at H
                                have c35b0 : decide (x8_2 ≤ (Go.bits .or .i64 (wrap64 ((Go.bits .and .i64 (wrap64 (rd l0 x7_2)) 63) * 256)) (wrap64 (rd l0 (ji32))))) = true := decide_eq_true c35
                                clear c35
                                simp only [Option.some.injEq, Prod.mk.injEq] at H
                                obtain ⟨rfl, rfl, rfl⟩ := H
                                have p101 : 0 ≤ (x7_2 : Int) := of_decide_eq_true (by first | (with_reducible assumption) | assumption)
                                have q101 : x7_2 < (l0.length : Int) := of_decide_eq_true (by first | (with_reducible assumption) | assumption)
                                obtain ⟨ad101, e101, hx101_0⟩ := Kd.at_int HR0.out x7_2 p101 q101
                                cases e101
                                replace hx101_0 := (HB.out.cell (World.block_lt_of_cell? w _ hx101_0)).trans hx101_0
                                replace p101 := eq_true p101
                                replace q101 := eq_true q101
                                have p112 : 0 ≤ ((ji32) : Int) := of_decide_eq_true (by first | (with_reducible assumption) | assumption)
                                have q112 : (ji32) < (l0.length : Int) := of_decide_eq_true (by first | (with_reducible assumption) | assumption)
                                obtain ⟨ad112, e112, hx112_0⟩ := Kd.at_int HR0.out (ji32) p112 q112
                                obtain rfl : ad101 = ad112 := (by injection e112)
                                replace hx112_0 := (HB.out.cell (World.block_lt_of_cell? w _ hx112_0)).trans hx112_0
                                replace p112 := eq_true p112
                                replace q112 := eq_true q112
                                go_wp2
                                go_ret3
                                exact ⟨by first | rfl | (simp [errW_none, errW_some] <;> rfl) | (simp only [← hji32]; first | rfl | (simp [errW_none, errW_some] <;> rfl)) | (simp [*, errW_none, errW_some] <;> rfl), by repeat (first | (with_reducible first | exact HB.out | apply below_alloc | apply pw_below_drewN | apply below_drew1) | exact HB.out)⟩
                              · rw [if_neg c35] at H
                                have c35b0 : decide (x8_2 ≤ (Go.bits .or .i64 (wrap64 ((Go.bits .and .i64 (wrap64 (rd l0 x7_2)) 63) * 256)) (wrap64 (rd l0 (ji32))))) = false := decide_eq_false c35
                                clear c35
                                by_cases c36 : x9_2 < 0
                                · rw [if_pos c36] at H
                                  have c36b0 : decide (x9_2 < 0) = true := decide_eq_true c36
                                  clear c36
                                  have H' := Aside0.mk H
                                  clear H
                                  have p101 : 0 ≤ (x7_2 : Int) := of_decide_eq_true (by first | (with_reducible assumption) | assumption)
                                  have q101 : x7_2 < (l0.length : Int) := of_decide_eq_true (by first | (with_reducible assumption) | assumption)
                                  obtain ⟨ad101, e101, hx101_0⟩ := Kd.at_int HR0.out x7_2 p101 q101
                                  cases e101
                                  replace hx101_0 := (HB.out.cell (World.block_lt_of_cell? w _ hx101_0)).trans hx101_0
                                  replace p101 := eq_true p101
                                  replace q101 := eq_true q101
                                  have p112 : 0 ≤ ((ji32) : Int) := of_decide_eq_true (by first | (with_reducible assumption) | assumption)
                                  have q112 : (ji32) < (l0.length : Int) := of_decide_eq_true (by first | (with_reducible assumption) | assumption)
                                  obtain ⟨ad112, e112, hx112_0⟩ := Kd.at_int HR0.out (ji32) p112 q112
                                  obtain rfl : ad101 = ad112 := (by injection e112)
                                  replace hx112_0 := (HB.out.cell (World.block_lt_of_cell? w _ hx112_0)).trans hx112_0
                                  replace p112 := eq_true p112
                                  replace q112 := eq_true q112
                                  go_wp2
                                  go_roundg k2
                                  case measure => have := HJ2.out; have := HK2.out; omega
                                  case rel => exact ⟨(Go.bits .or .i64 (wrap64 ((Go.bits .and .i64 (wrap64 (rd l0 x7_2)) 63) * 256)) (wrap64 (rd l0 (ji32)))), (Go.bits .or .i64 (wrap64 ((Go.bits .and .i64 (wrap64 (rd l0 x7_2)) 63) * 256)) (wrap64 (rd l0 (ji32)))), (wrap64 (x7_2 + 2)), (x10_2), (by first | rfl | (simp; done) | (simp only [← hji32] <;> (first | rfl | simp)) | (simp [*]; done)), (by first | rfl | (simp; done) | (simp only [← hji32] <;> (first | rfl | simp)) | (simp [*]; done)), (by first | rfl | (simp; done) | (simp [*]; done)), H', ⟨by have := HJ2.out; have := HK2.out; omega⟩, ⟨by (with_reducible repeat (first | apply Kd.R_alloc | apply Kd.R_drewN | apply Kd.R_drew)); exact HO_10.out⟩, ⟨by repeat (first | (with_reducible first | exact HB.out | apply below_alloc | apply pw_below_drewN | apply below_drew1) | exact HB.out)⟩⟩
                                · rw [if_neg c36] at H
                                  have c36b0 : decide (x9_2 < 0) = false := decide_eq_false c36
                                  clear c36
                                  have H' := Aside0.mk H
                                  clear H
                                  have p101 : 0 ≤ (x7_2 : Int) := of_decide_eq_true (by first | (with_reducible assumption) | assumption)
                                  have q101 : x7_2 < (l0.length : Int) := of_decide_eq_true (by first | (with_reducible assumption) | assumption)
                                  obtain ⟨ad101, e101, hx101_0⟩ := Kd.at_int HR0.out x7_2 p101 q101
                                  cases e101
                                  replace hx101_0 := (HB.out.cell (World.block_lt_of_cell? w _ hx101_0)).trans hx101_0
                                  replace p101 := eq_true p101
                                  replace q101 := eq_true q101
                                  have p112 : 0 ≤ ((ji32) : Int) := of_decide_eq_true (by first | (with_reducible assumption) | assumption)
                                  have q112 : (ji32) < (l0.length : Int) := of_decide_eq_true (by first | (with_reducible assumption) | assumption)
                                  obtain ⟨ad112, e112, hx112_0⟩ := Kd.at_int HR0.out (ji32) p112 q112
                                  obtain rfl : ad101 = ad112 := (by injection e112)
                                  replace hx112_0 := (HB.out.cell (World.block_lt_of_cell? w _ hx112_0)).trans hx112_0
                                  replace p112 := eq_true p112
                                  replace q112 := eq_true q112
                                  go_wp2
                                  go_roundg k2
                                  case measure => have := HJ2.out; have := HK2.out; omega
                                  case rel => exact ⟨(Go.bits .or .i64 (wrap64 ((Go.bits .and .i64 (wrap64 (rd l0 x7_2)) 63) * 256)) (wrap64 (rd l0 (ji32)))), (Go.bits .or .i64 (wrap64 ((Go.bits .and .i64 (wrap64 (rd l0 x7_2)) 63) * 256)) (wrap64 (rd l0 (ji32)))), (x9_2), (x10_2), (by first | rfl | (simp; done) | (simp only [← hji32] <;> (first | rfl | simp)) | (simp [*]; done)), (by first | rfl | (simp; done) | (simp only [← hji32] <;> (first | rfl | simp)) | (simp [*]; done)), (by first | rfl | (simp; done) | (simp [*]; done)), H', ⟨by have := HJ2.out; have := HK2.out; omega⟩, ⟨by (with_reducible repeat (first | apply Kd.R_alloc | apply Kd.R_drewN | apply Kd.R_drew)); exact HO_10.out⟩, ⟨by repeat (first | (with_reducible first | exact HB.out | apply below_alloc | apply pw_below_drewN | apply below_drew1) | exact HB.out)⟩⟩
                            · rw [if_neg c34] at H
                              exact absurd H (by simp)
                          · rw [if_neg c33] at H
                            exact absurd H (by simp)
                · rw [if_neg c8] at H
                  exact absurd H (by simp)
              · rw [if_neg c7] at H
                exact absurd H (by simp)

end Go.Proofs.Ytlmapgfmfamgcaa.F
