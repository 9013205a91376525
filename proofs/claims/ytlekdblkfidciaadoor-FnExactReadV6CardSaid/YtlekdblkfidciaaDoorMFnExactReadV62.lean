/- Part 2 of 2 of the proof of FnExactReadV6: what each Go function on its way computes, that the Go code does just this, and what the law says of it. No condition beyond the statement's own. -/
import Derived.Shelf.Strconv.ToError
import Derived.Shelf.Strconv.ParseUint10
import Derived.Shelf.Strings.Prefix
import Derived.Shelf.Strings.Repeat
import Derived.Test.YtlekdblkfidciaaDoorWWords
import Derived.Test.YtlekdblkfidciaaDoorWMore
import Derived.Lib.Bytes
import Derived.Lib.SplitLaws
import Derived.Test.YtlekdblkfidciaaDoorRows
import Derived.Test.YtlekdblkfidciaaDoorTie
import Derived.Test.YtlekdblkfidciaaDoorCards
import Derived.OpenVars
import Derived.LaidMore
import Derived.Stop.LaidErr
import Derived.Stop.Joined
import Derived.WalkKit
import Derived.ProofKit
import Derived.OpenShut
import Derived.ShutString
import Derived.ChangeOld
import Derived.Below
import Derived.SizedLaws
import Derived.Test.YtlekdblkfidciaaDoorMFnExactReadV61
namespace Go.Proofs.YtlekdblkfidciaaDoor.F
open Go Go.Shelf Go.RowKit Go.Proofs.YtlekdblkfidciaaDoorW.PrintWords Go.Proofs.YtlekdblkfidciaaDoorW.PrintLast Go.Proofs.YtlekdblkfidciaaDoorW.PrintMore
attribute [local go_sem] max2_int min2_int max_two min_two max_three min_three max_four min_four   -- for this text's walks alone
set_option linter.unusedVariables false
set_option linter.unusedSimpArgs false

/-! ### impl_ReadV4: function 17 -/
def impl_ReadV4.l0 : Nat → List Int → List ByteArray → Int → Int → Option (ByteArray × Int)
  | 0, _, _, _, _ => none
  | k + 1, x5, x14, x15, x16 => if x16 < x15 then (if 0 ≤ x16 then (if x16 < (x14.length : Int) then ((impl_decimal.f k (rdOf ByteArray.empty x14 x16) 3).bind fun t105 => (if t105 < 0 then (some ((⟨#[]⟩ : ByteArray), 7)) else (if t105 > 255 then (some ((⟨#[]⟩ : ByteArray), 7)) else (if ((rdOf ByteArray.empty x14 x16).size : Int) > 1 then (if 0 < ((rdOf ByteArray.empty x14 x16).size : Int) then (if (bt (rdOf ByteArray.empty x14 x16) 0) = 48 then (some ((⟨#[]⟩ : ByteArray), 7)) else (if x5.length < 140737488355328 then (impl_ReadV4.l0 k (x5 ++ [(t105) % 256]) x14 x15 (wrap64 (x16 + 1))) else (none))) else (none)) else (if x5.length < 140737488355328 then (impl_ReadV4.l0 k (x5 ++ [(t105) % 256]) x14 x15 (wrap64 (x16 + 1))) else (none)))))) else (none)) else (none)) else (some (strOfNums x5, 0))
def impl_ReadV4.f (k : Nat) (a0 : ByteArray) : Option (ByteArray × Int) := (strings_Split.f a0 (⟨#[46]⟩ : ByteArray)).bind fun t101 => (if (t101.length : Int) = 4 then (impl_ReadV4.l0 k ([] : List Int) t101 (t101.length : Int) 0) else (some ((⟨#[]⟩ : ByteArray), 7)))
theorem impl_ReadV4.mono_l : ∀ k, (∀ y0 y1 y2 y3, LeO (impl_ReadV4.l0 k y0 y1 y2 y3) (impl_ReadV4.l0 (k + 1) y0 y1 y2 y3))
  | 0 => fun _ _ _ _ r h => by simp [impl_ReadV4.l0] at h
  | k + 1 => by
    have ih0 := impl_ReadV4.mono_l k
    · intro y0 y1 y2 y3
      unfold impl_ReadV4.l0
      repeat' first
      | (with_reducible exact ih0 _ _ _ _)
      | (with_reducible exact impl_decimal.mono _ _ _)
      | (with_reducible exact LeO.refl _)
      | (with_reducible exact LeO.none _)
      | (with_reducible refine LeO.ite ?_ ?_)
      | (with_reducible refine LeO.bind ?_ (fun _ => ?_))
      | exact ih0 _ _ _ _
      | exact impl_decimal.mono _ _ _
      | exact LeO.none _
      | refine LeO.ite ?_ ?_
      | refine LeO.bind ?_ (fun _ => ?_)
theorem impl_ReadV4.mono : ∀ a0 k, LeO (impl_ReadV4.f k a0) (impl_ReadV4.f (k + 1) a0) := by
  intro a0 k
  have ih0 := impl_ReadV4.mono_l k
  unfold impl_ReadV4.f
  repeat' first
      | (with_reducible exact ih0 _ _ _ _)
      | (with_reducible exact impl_decimal.mono _ _ _)
      | (with_reducible exact LeO.refl _)
      | (with_reducible exact LeO.none _)
      | (with_reducible refine LeO.ite ?_ ?_)
      | (with_reducible refine LeO.bind ?_ (fun _ => ?_))
      | exact ih0 _ _ _ _
      | exact impl_decimal.mono _ _ _
      | exact LeO.none _
      | refine LeO.ite ?_ ?_
      | refine LeO.bind ?_ (fun _ => ?_)
set_option maxHeartbeats 8000000 in
set_option maxRecDepth 100000 in
theorem impl_ReadV4.calls (k : Nat) (a0 : ByteArray) (r1 : ByteArray) (r2 : Int) (w : World) (h : impl_ReadV4.f k a0 = some (r1, r2)) (hGLen : GlobLen w) :
    Calls Tryd.prog 17 #[.string a0] w fun e w' => e = .returned (.tuple #[.string r1, .int .i64 r2]) ∧ Below w.heap.size w w' := by
  have HGLen := Aside0.mk hGLen
  clear hGLen
  have HB := Aside0.mk (Below.refl w.heap.size w)
  have H : ((strings_Split.f a0 (⟨#[46]⟩ : ByteArray)).bind fun t101 => (if (t101.length : Int) = 4 then (impl_ReadV4.l0 k ([] : List Int) t101 (t101.length : Int) 0) else (some ((⟨#[]⟩ : ByteArray), 7)))) = some (r1, r2) := h
  clear h
  replace H := Option.bind_eq_some_iff.mp H
  obtain ⟨t101, A20, H⟩ := H
  replace H : (if (t101.length : Int) = 4 then (impl_ReadV4.l0 k ([] : List Int) t101 (t101.length : Int) 0) else (some ((⟨#[]⟩ : ByteArray), 7))) = some (r1, r2) := H
  have A2 := Aside0.mk A20
  clear A20
  by_cases c3 : (t101.length : Int) = 4
  · rw [if_pos c3] at H
    have c3b0 : ((t101.length : Int) == 4) = true := beq_iff_eq.mpr c3
    have c3b1 : ((t101.length : Int) != 4) = false := bne_eq_false_iff_eq.mpr c3
    clear c3
    have H' := Aside0.mk H
    clear H
    go_enter Tryd.func17, Tryd.ntmps17
    go_wp2_with (first | ((with_reducible refine gate_callee (f := 16) rfl ?_); refine goesL_ (some 10) rfl rfl Tryd.func16 (by kernel_rfl) rfl #[.string a0, .string (⟨#[46]⟩ : ByteArray)] rfl (by (try simp only [List.map_toArray, List.map_cons, List.map_nil]); first | done | rfl | (simp only [List.length_drop, List.length_take]; rfl)) ?_; (with_reducible refine (strings_Split.calls a0 (⟨#[46]⟩ : ByteArray) t101 _ A2.out (HGLen.out.below (by repeat (first | (with_reducible first | exact HB.out | apply below_alloc | apply pw_below_drewN | apply below_drew1) | exact HB.out)))).mono ?_); rintro e w4 ⟨v102, rfl, ho0, hb⟩; refine ⟨_, rfl, ?_⟩; have n0_ := Aside0.mk (Kd.R_lower ho0 (below_size (by repeat (first | (with_reducible first | exact HB.out | apply below_alloc | apply pw_below_drewN | apply below_drew1) | exact HB.out)))); have n1_ := Aside0.mk (below_step (by repeat (first | (with_reducible first | exact HB.out | apply below_alloc | apply pw_below_drewN | apply below_drew1) | exact HB.out)) hb); clear HB; have HO103 := n0_; have HB := n1_; clear n0_ n1_; (try clear hb); (try clear hb2); (try clear hk); (try clear hi); (try clear ho0); obtain ⟨Ao5, co5, eo5⟩ := Kd.R_slice HO103.out; subst eo5))
    go_loopg [5, 16] k (fun kq v5 v16 w' => ∃ (x5_1 : List Int) (x16_1 : Int), v16 = .int .i64 x16_1 ∧ Aside0 (impl_ReadV4.l0 kq x5_1 t101 (t101.length : Int) x16_1 = some (r1, r2)) ∧ Aside0 (kq ≤ k) ∧ Aside0 (Kd.R (Kd.int .u8) 5 w' w.heap.size (fun _ => True) v5 x5_1) ∧ Aside0 (Kd.R Kd.string 9 w' w.heap.size (fun _ => True) (.slice Ao5 t101.length co5) t101) ∧ Aside0 (Below w.heap.size w w'))
    case atStart => exact ⟨(([] : List Int)), (0), (by first | rfl | (simp; done) | (simp [*]; done)), H', ⟨Nat.le_refl _⟩, ⟨by first | exact Kd.R_nil _ _ _ _ _ | exact Kd.N_nil _ _ _ _ _ | exact Kd.V_nil _ _ _ _ _ | exact Kd.Q_nil _ _ _ _ _ | exact Kd.S_nil _ _ _ _ _⟩, ⟨by (with_reducible repeat (first | apply Kd.R_alloc | apply Kd.R_drewN | apply Kd.R_drew)); exact HO103.out⟩, ⟨by repeat (first | (with_reducible first | exact HB.out | apply below_alloc | apply pw_below_drewN | apply below_drew1) | exact HB.out)⟩⟩
    case round =>
      clear H'
      try clear c1
      try clear p2
      try clear c3
      try clear c3b0
      try clear c3b1
      obtain ⟨x5_1, x16_1, rfl, HA, HK1, HO_5, HO_14, HB⟩ := hrel
      cases gk with
      | zero => exact absurd HA.out (by simp [impl_ReadV4.l0])
      | succ k1 =>
        have H := HA.out
        clear HA
        simp only [impl_ReadV4.l0] at H
        by_cases c6 : x16_1 < (t101.length : Int)
        · rw [if_pos c6] at H
          have c6b0 : decide (x16_1 < (t101.length : Int)) = true := decide_eq_true c6
          clear c6
          by_cases c7 : 0 ≤ x16_1
          · rw [if_pos c7] at H
            have c7b0 : decide (0 ≤ x16_1) = true := decide_eq_true c7
            clear c7
            by_cases c8 : x16_1 < (t101.length : Int)
            · rw [if_pos c8] at H
              have c8b0 : decide (x16_1 < (t101.length : Int)) = true := decide_eq_true c8
              clear c8
              replace H := Option.bind_eq_some_iff.mp H
              obtain ⟨t105, A90, H⟩ := H
              replace H : (if t105 < 0 then (some ((⟨#[]⟩ : ByteArray), 7)) else (if t105 > 255 then (some ((⟨#[]⟩ : ByteArray), 7)) else (if ((rdOf ByteArray.empty t101 x16_1).size : Int) > 1 then (if 0 < ((rdOf ByteArray.empty t101 x16_1).size : Int) then (if (bt (rdOf ByteArray.empty t101 x16_1) 0) = 48 then (some ((⟨#[]⟩ : ByteArray), 7)) else (if x5_1.length < 140737488355328 then (impl_ReadV4.l0 k1 (x5_1 ++ [(t105) % 256]) t101 (t101.length : Int) (wrap64 (x16_1 + 1))) else (none))) else (none)) else (if x5_1.length < 140737488355328 then (impl_ReadV4.l0 k1 (x5_1 ++ [(t105) % 256]) t101 (t101.length : Int) (wrap64 (x16_1 + 1))) else (none))))) = some (r1, r2) := H
              have A9 := Aside0.mk A90
              clear A90
              by_cases c10 : t105 < 0
              · rw [if_pos c10] at H
                have c10b0 : decide (t105 < 0) = true := decide_eq_true c10
                clear c10
                simp only [Option.some.injEq, Prod.mk.injEq] at H
                obtain ⟨rfl, rfl⟩ := H
                have p104 : 0 ≤ (x16_1 : Int) := of_decide_eq_true (by first | (with_reducible assumption) | assumption)
                have q104 : x16_1 < (t101.length : Int) := of_decide_eq_true (by first | (with_reducible assumption) | assumption)
                obtain ⟨ad104, e104, hx104_0⟩ := Kd.at_string (Kd.R_reads' HO_14.out).2.2 x16_1 p104 q104
                cases e104
                replace p104 := eq_true p104
                replace q104 := eq_true q104
                go_wp2_with (first | ((with_reducible refine gate_callee (f := 30) rfl ?_); refine goesL_ (some 21) rfl rfl Tryd.func30 (by kernel_rfl) rfl #[.string (rdOf ByteArray.empty t101 x16_1), .int .i64 3] rfl (by (try simp only [List.map_toArray, List.map_cons, List.map_nil]); first | done | rfl | (simp only [List.length_drop, List.length_take]; rfl)) ?_; (with_reducible refine (impl_decimal.calls k1 (rdOf ByteArray.empty t101 x16_1) 3 t105 _ A9.out).mono ?_); rintro e w' ⟨rfl, ⟨nd, rfl⟩⟩; refine ⟨_, rfl, ?_⟩))
                go_ret2
                exact ⟨by first | rfl | (simp [errW_none, errW_some] <;> rfl) | (simp [*, errW_none, errW_some] <;> rfl), by repeat (first | (with_reducible first | exact HB.out | apply below_alloc | apply pw_below_drewN | apply below_drew1) | exact HB.out)⟩
              · rw [if_neg c10] at H
                have c10b0 : decide (t105 < 0) = false := decide_eq_false c10
                clear c10
                by_cases c11 : t105 > 255
                · rw [if_pos c11] at H
                  have c11b0 : decide (255 < t105) = true := decide_eq_true c11
                  clear c11
                  simp only [Option.some.injEq, Prod.mk.injEq] at H
                  obtain ⟨rfl, rfl⟩ := H
                  have p104 : 0 ≤ (x16_1 : Int) := of_decide_eq_true (by first | (with_reducible assumption) | assumption)
                  have q104 : x16_1 < (t101.length : Int) := of_decide_eq_true (by first | (with_reducible assumption) | assumption)
                  obtain ⟨ad104, e104, hx104_0⟩ := Kd.at_string (Kd.R_reads' HO_14.out).2.2 x16_1 p104 q104
                  cases e104
                  replace p104 := eq_true p104
                  replace q104 := eq_true q104
                  go_wp2_with (first | ((with_reducible refine gate_callee (f := 30) rfl ?_); refine goesL_ (some 21) rfl rfl Tryd.func30 (by kernel_rfl) rfl #[.string (rdOf ByteArray.empty t101 x16_1), .int .i64 3] rfl (by (try simp only [List.map_toArray, List.map_cons, List.map_nil]); first | done | rfl | (simp only [List.length_drop, List.length_take]; rfl)) ?_; (with_reducible refine (impl_decimal.calls k1 (rdOf ByteArray.empty t101 x16_1) 3 t105 _ A9.out).mono ?_); rintro e w' ⟨rfl, ⟨nd, rfl⟩⟩; refine ⟨_, rfl, ?_⟩))
                  go_ret2
                  exact ⟨by first | rfl | (simp [errW_none, errW_some] <;> rfl) | (simp [*, errW_none, errW_some] <;> rfl), by repeat (first | (with_reducible first | exact HB.out | apply below_alloc | apply pw_below_drewN | apply below_drew1) | exact HB.out)⟩
                · rw [if_neg c11] at H
                  have c11b0 : decide (255 < t105) = false := decide_eq_false c11
                  clear c11
                  by_cases c12 : ((rdOf ByteArray.empty t101 x16_1).size : Int) > 1
                  · rw [if_pos c12] at H
                    have c12b0 : decide (1 < ((rdOf ByteArray.empty t101 x16_1).size : Int)) = true := decide_eq_true c12
                    have c12b1 : decide (1 < (rdOf ByteArray.empty t101 x16_1).size) = true := decide_eq_true (by omega)
                    clear c12
                    by_cases c13 : 0 < ((rdOf ByteArray.empty t101 x16_1).size : Int)
                    · rw [if_pos c13] at H
                      have c13b0 : decide (0 < ((rdOf ByteArray.empty t101 x16_1).size : Int)) = true := decide_eq_true c13
                      have c13b1 : decide (0 < (rdOf ByteArray.empty t101 x16_1).size) = true := decide_eq_true (by omega)
                      clear c13
                      by_cases c15 : (bt (rdOf ByteArray.empty t101 x16_1) 0) = 48
                      · rw [if_pos c15] at H
                        have c15b0 : ((bt (rdOf ByteArray.empty t101 x16_1) 0) == 48) = true := beq_iff_eq.mpr c15
                        have c15b1 : ((bt (rdOf ByteArray.empty t101 x16_1) 0) != 48) = false := bne_eq_false_iff_eq.mpr c15
                        clear c15
                        simp only [Option.some.injEq, Prod.mk.injEq] at H
                        obtain ⟨rfl, rfl⟩ := H
                        have p104 : 0 ≤ (x16_1 : Int) := of_decide_eq_true (by first | (with_reducible assumption) | assumption)
                        have q104 : x16_1 < (t101.length : Int) := of_decide_eq_true (by first | (with_reducible assumption) | assumption)
                        obtain ⟨ad104, e104, hx104_0⟩ := Kd.at_string (Kd.R_reads' HO_14.out).2.2 x16_1 p104 q104
                        cases e104
                        replace p104 := eq_true p104
                        replace q104 := eq_true q104
                        go_wp2_with (first | ((with_reducible refine gate_callee (f := 30) rfl ?_); refine goesL_ (some 21) rfl rfl Tryd.func30 (by kernel_rfl) rfl #[.string (rdOf ByteArray.empty t101 x16_1), .int .i64 3] rfl (by (try simp only [List.map_toArray, List.map_cons, List.map_nil]); first | done | rfl | (simp only [List.length_drop, List.length_take]; rfl)) ?_; (with_reducible refine (impl_decimal.calls k1 (rdOf ByteArray.empty t101 x16_1) 3 t105 _ A9.out).mono ?_); rintro e w' ⟨rfl, ⟨nd, rfl⟩⟩; refine ⟨_, rfl, ?_⟩; have p14 : 0 ≤ (0 : Int) := (by omega); have q14 : 0 < (rdOf ByteArray.empty t101 x16_1).size := (by have : (0 : Int) < ((rdOf ByteArray.empty t101 x16_1).size : Int) := of_decide_eq_true (by first | (with_reducible assumption) | assumption); omega); have hx14 : ∀ h : 0 < (rdOf ByteArray.empty t101 x16_1).size, (((rdOf ByteArray.empty t101 x16_1)[0]'h).toNat : Int) = bt (rdOf ByteArray.empty t101 x16_1) 0 := bt_at (rdOf ByteArray.empty t101 x16_1) 0; clear p14; have qi14 : (0 < ((rdOf ByteArray.empty t101 x16_1).size : Int)) = True := eq_true (of_decide_eq_true (by first | (with_reducible assumption) | assumption)); replace q14 := eq_true q14))
                        go_ret2
                        exact ⟨by first | rfl | (simp [errW_none, errW_some] <;> rfl) | (simp [*, errW_none, errW_some] <;> rfl), by repeat (first | (with_reducible first | exact HB.out | apply below_alloc | apply pw_below_drewN | apply below_drew1) | exact HB.out)⟩
                      · rw [if_neg c15] at H
                        have c15b0 : ((bt (rdOf ByteArray.empty t101 x16_1) 0) == 48) = false := beq_eq_false_iff_ne.mpr c15
                        have c15b1 : ((bt (rdOf ByteArray.empty t101 x16_1) 0) != 48) = true := bne_iff_ne.mpr c15
                        by_cases c16 : x5_1.length < 140737488355328
                        · rw [if_pos c16] at H
                          have LMc16 := Aside0.mk c16
                          clear c16
                          obtain ⟨y106, hy106⟩ : ∃ y_ : List Int, y_ = (x5_1 ++ [(t105) % 256]) := ⟨_, rfl⟩
                          replace H : (impl_ReadV4.l0 k1 y106 t101 (t101.length : Int) (wrap64 (x16_1 + 1))) = some (r1, r2) := by first | (rw [hy106]; with_reducible exact H) | (have H2_ := (Option.bind_some _ _).symm.trans H; rw [hy106]; with_reducible exact H2_) | (have H2_ := (Option.bind_some _ _).symm.trans H; with_reducible exact H2_) | with_reducible exact H | (rw [hy106]; exact H) | exact H
                          have Ny106 := Aside0.mk hy106
                          clear hy106
                          have H' := Aside0.mk H
                          clear H
                          have p104 : 0 ≤ (x16_1 : Int) := of_decide_eq_true (by first | (with_reducible assumption) | assumption)
                          have q104 : x16_1 < (t101.length : Int) := of_decide_eq_true (by first | (with_reducible assumption) | assumption)
                          obtain ⟨ad104, e104, hx104_0⟩ := Kd.at_string (Kd.R_reads' HO_14.out).2.2 x16_1 p104 q104
                          cases e104
                          replace p104 := eq_true p104
                          replace q104 := eq_true q104
                          go_wp2_with (first | ((with_reducible refine gate_callee (f := 30) rfl ?_); refine goesL_ (some 21) rfl rfl Tryd.func30 (by kernel_rfl) rfl #[.string (rdOf ByteArray.empty t101 x16_1), .int .i64 3] rfl (by (try simp only [List.map_toArray, List.map_cons, List.map_nil]); first | done | rfl | (simp only [List.length_drop, List.length_take]; rfl)) ?_; (with_reducible refine (impl_decimal.calls k1 (rdOf ByteArray.empty t101 x16_1) 3 t105 _ A9.out).mono ?_); rintro e w' ⟨rfl, ⟨nd, rfl⟩⟩; refine ⟨_, rfl, ?_⟩; have p14 : 0 ≤ (0 : Int) := (by omega); have q14 : 0 < (rdOf ByteArray.empty t101 x16_1).size := (by have : (0 : Int) < ((rdOf ByteArray.empty t101 x16_1).size : Int) := of_decide_eq_true (by first | (with_reducible assumption) | assumption); omega); have hx14 : ∀ h : 0 < (rdOf ByteArray.empty t101 x16_1).size, (((rdOf ByteArray.empty t101 x16_1)[0]'h).toNat : Int) = bt (rdOf ByteArray.empty t101 x16_1) 0 := bt_at (rdOf ByteArray.empty t101 x16_1) 0; clear p14; have qi14 : (0 < ((rdOf ByteArray.empty t101 x16_1).size : Int)) = True := eq_true (of_decide_eq_true (by first | (with_reducible assumption) | assumption)); replace q14 := eq_true q14) | ((with_reducible refine gate_builtin (b := .append) (xs := #[.tmp 38, .tmp 41]) rfl ?_); (try (refine gate_guard (by rfl) ?_; dsimp only)); at_builtin; refine Kd.R_append (Kd.int .u8) (w0 := w) w.heap.size rfl (.tmp 38) (.tmp 41) 35 5 (.int .u8 0) 1 rfl Tryd.underlying35 info5 rfl (by decide) (by omega) u5 x5_1 ((t105) % 256) [.int .u8 ((t105) % 256)] (fun _ => True) (fun _ => False) rfl rfl ?aP (fun _ hk => hk.elim) ?aF ?aO ?aB ?aS ?aL ?_; (case aP => exact rfl); (case aB => exact (by repeat (first | (with_reducible first | exact HB.out | apply below_alloc | apply pw_below_drewN | apply below_drew1) | exact HB.out))); (case aF => exact (fun _ _ => trivial)); (case aO => exact (by (with_reducible repeat (first | apply Kd.R_alloc | apply Kd.R_drewN | apply Kd.R_drew)); exact HO_5.out)); (case aS => exact (below_size (by repeat (first | (with_reducible first | exact HB.out | apply below_alloc | apply pw_below_drewN | apply below_drew1) | exact HB.out)))); (case aL => have := LMc16.out; omega); intro v107 w17 ho hb hg hat; rw [← Ny106.out] at ho; have n0_ := Aside0.mk (Kd.R_over' (by (with_reducible repeat (first | apply Kd.R_alloc | apply Kd.R_drewN | apply Kd.R_drew)); exact HO_14.out) (Kd.R_typed (by (with_reducible repeat (first | apply Kd.R_alloc | apply Kd.R_drewN | apply Kd.R_drew)); exact HO_5.out)) (by decide) hg); have n1_ := Aside0.mk (hb); have n2_ := Aside0.mk (ho); clear HO_14; clear HB; clear HO_5; have HO_14 := n0_; have HB := n1_; have HO108 := n2_; clear n0_ n1_ n2_; clear ho hb hg hat))
                          go_roundg k1
                          case measure => have := HK1.out; omega
                          case rel => exact ⟨(y106), (wrap64 (x16_1 + 1)), (by first | rfl | (simp; done) | (simp [*]; done)), H', ⟨by have := HK1.out; omega⟩, ⟨by (with_reducible repeat (first | apply Kd.R_alloc | apply Kd.R_drewN | apply Kd.R_drew)); exact HO108.out⟩, ⟨by (with_reducible repeat (first | apply Kd.R_alloc | apply Kd.R_drewN | apply Kd.R_drew)); exact HO_14.out⟩, ⟨by repeat (first | (with_reducible first | exact HB.out | apply below_alloc | apply pw_below_drewN | apply below_drew1) | exact HB.out)⟩⟩
                        · rw [if_neg c16] at H
                          exact absurd H (by simp)
                    · rw [if_neg c13] at H
                      exact absurd H (by simp)
                  · rw [if_neg c12] at H
                    have c12b0 : decide (1 < ((rdOf ByteArray.empty t101 x16_1).size : Int)) = false := decide_eq_false c12
                    have c12b1 : decide (1 < (rdOf ByteArray.empty t101 x16_1).size) = false := decide_eq_false (by omega)
                    clear c12
                    by_cases c18 : x5_1.length < 140737488355328
                    · rw [if_pos c18] at H
                      have LMc18 := Aside0.mk c18
                      clear c18
                      obtain ⟨y109, hy109⟩ : ∃ y_ : List Int, y_ = (x5_1 ++ [(t105) % 256]) := ⟨_, rfl⟩
                      replace H : (impl_ReadV4.l0 k1 y109 t101 (t101.length : Int) (wrap64 (x16_1 + 1))) = some (r1, r2) := by first | (rw [hy109]; with_reducible exact H) | (have H2_ := (Option.bind_some _ _).symm.trans H; rw [hy109]; with_reducible exact H2_) | (have H2_ := (Option.bind_some _ _).symm.trans H; with_reducible exact H2_) | with_reducible exact H | (rw [hy109]; exact H) | exact H
                      have Ny109 := Aside0.mk hy109
                      clear hy109
                      have H' := Aside0.mk H
                      clear H
                      have p104 : 0 ≤ (x16_1 : Int) := of_decide_eq_true (by first | (with_reducible assumption) | assumption)
                      have q104 : x16_1 < (t101.length : Int) := of_decide_eq_true (by first | (with_reducible assumption) | assumption)
                      obtain ⟨ad104, e104, hx104_0⟩ := Kd.at_string (Kd.R_reads' HO_14.out).2.2 x16_1 p104 q104
                      cases e104
                      replace p104 := eq_true p104
                      replace q104 := eq_true q104
                      go_wp2_with (first | ((with_reducible refine gate_callee (f := 30) rfl ?_); refine goesL_ (some 21) rfl rfl Tryd.func30 (by kernel_rfl) rfl #[.string (rdOf ByteArray.empty t101 x16_1), .int .i64 3] rfl (by (try simp only [List.map_toArray, List.map_cons, List.map_nil]); first | done | rfl | (simp only [List.length_drop, List.length_take]; rfl)) ?_; (with_reducible refine (impl_decimal.calls k1 (rdOf ByteArray.empty t101 x16_1) 3 t105 _ A9.out).mono ?_); rintro e w' ⟨rfl, ⟨nd, rfl⟩⟩; refine ⟨_, rfl, ?_⟩) | ((with_reducible refine gate_builtin (b := .append) (xs := #[.tmp 38, .tmp 41]) rfl ?_); (try (refine gate_guard (by rfl) ?_; dsimp only)); at_builtin; refine Kd.R_append (Kd.int .u8) (w0 := w) w.heap.size rfl (.tmp 38) (.tmp 41) 35 5 (.int .u8 0) 1 rfl Tryd.underlying35 info5 rfl (by decide) (by omega) u5 x5_1 ((t105) % 256) [.int .u8 ((t105) % 256)] (fun _ => True) (fun _ => False) rfl rfl ?aP (fun _ hk => hk.elim) ?aF ?aO ?aB ?aS ?aL ?_; (case aP => exact rfl); (case aB => exact (by repeat (first | (with_reducible first | exact HB.out | apply below_alloc | apply pw_below_drewN | apply below_drew1) | exact HB.out))); (case aF => exact (fun _ _ => trivial)); (case aO => exact (by (with_reducible repeat (first | apply Kd.R_alloc | apply Kd.R_drewN | apply Kd.R_drew)); exact HO_5.out)); (case aS => exact (below_size (by repeat (first | (with_reducible first | exact HB.out | apply below_alloc | apply pw_below_drewN | apply below_drew1) | exact HB.out)))); (case aL => have := LMc18.out; omega); intro v110 w19 ho hb hg hat; rw [← Ny109.out] at ho; have n0_ := Aside0.mk (Kd.R_over' (by (with_reducible repeat (first | apply Kd.R_alloc | apply Kd.R_drewN | apply Kd.R_drew)); exact HO_14.out) (Kd.R_typed (by (with_reducible repeat (first | apply Kd.R_alloc | apply Kd.R_drewN | apply Kd.R_drew)); exact HO_5.out)) (by decide) hg); have n1_ := Aside0.mk (hb); have n2_ := Aside0.mk (ho); clear HO_14; clear HB; clear HO_5; have HO_14 := n0_; have HB := n1_; have HO111 := n2_; clear n0_ n1_ n2_; clear ho hb hg hat))
                      go_roundg k1
                      case measure => have := HK1.out; omega
                      case rel => exact ⟨(y109), (wrap64 (x16_1 + 1)), (by first | rfl | (simp; done) | (simp [*]; done)), H', ⟨by have := HK1.out; omega⟩, ⟨by (with_reducible repeat (first | apply Kd.R_alloc | apply Kd.R_drewN | apply Kd.R_drew)); exact HO111.out⟩, ⟨by (with_reducible repeat (first | apply Kd.R_alloc | apply Kd.R_drewN | apply Kd.R_drew)); exact HO_14.out⟩, ⟨by repeat (first | (with_reducible first | exact HB.out | apply below_alloc | apply pw_below_drewN | apply below_drew1) | exact HB.out)⟩⟩
                    · rw [if_neg c18] at H
                      exact absurd H (by simp)
            · rw [if_neg c8] at H
              exact absurd H (by simp)
          · rw [if_neg c7] at H
            exact absurd H (by simp)
        · rw [if_neg c6] at H
          have c6b0 : decide (x16_1 < (t101.length : Int)) = false := decide_eq_false c6
          clear c6
          simp only [Option.some.injEq, Prod.mk.injEq] at H
          obtain ⟨rfl, rfl⟩ := H
          have hcv20 := own_string (P := Tryd.prog) Tryd.underlying35 Tryd.underlying5 Tryd.underlying9 (Kd.own_of_R HO_5.out)
          go_wp2
          go_ret2
          exact ⟨by first | rfl | (simp [errW_none, errW_some] <;> rfl) | (simp [*, errW_none, errW_some] <;> rfl), by repeat (first | (with_reducible first | exact HB.out | apply below_alloc | apply pw_below_drewN | apply below_drew1) | exact HB.out)⟩
  · rw [if_neg c3] at H
    have c3b0 : ((t101.length : Int) == 4) = false := beq_eq_false_iff_ne.mpr c3
    have c3b1 : ((t101.length : Int) != 4) = true := bne_iff_ne.mpr c3
    simp only [Option.some.injEq, Prod.mk.injEq] at H
    obtain ⟨rfl, rfl⟩ := H
    go_enter Tryd.func17, Tryd.ntmps17
    go_wp2_with (first | ((with_reducible refine gate_callee (f := 16) rfl ?_); refine goesL_ (some 10) rfl rfl Tryd.func16 (by kernel_rfl) rfl #[.string a0, .string (⟨#[46]⟩ : ByteArray)] rfl (by (try simp only [List.map_toArray, List.map_cons, List.map_nil]); first | done | rfl | (simp only [List.length_drop, List.length_take]; rfl)) ?_; (with_reducible refine (strings_Split.calls a0 (⟨#[46]⟩ : ByteArray) t101 _ A2.out (HGLen.out.below (by repeat (first | (with_reducible first | exact HB.out | apply below_alloc | apply pw_below_drewN | apply below_drew1) | exact HB.out)))).mono ?_); rintro e w21 ⟨v102, rfl, ho0, hb⟩; refine ⟨_, rfl, ?_⟩; have n0_ := Aside0.mk (Kd.R_lower ho0 (below_size (by repeat (first | (with_reducible first | exact HB.out | apply below_alloc | apply pw_below_drewN | apply below_drew1) | exact HB.out)))); have n1_ := Aside0.mk (below_step (by repeat (first | (with_reducible first | exact HB.out | apply below_alloc | apply pw_below_drewN | apply below_drew1) | exact HB.out)) hb); clear HB; have HO103 := n0_; have HB := n1_; clear n0_ n1_; (try clear hb); (try clear hb2); (try clear hk); (try clear hi); (try clear ho0); obtain ⟨Ao22, co22, eo22⟩ := Kd.R_slice HO103.out; subst eo22))
    go_ret2
    exact ⟨by first | rfl | (simp [errW_none, errW_some] <;> rfl) | (simp [*, errW_none, errW_some] <;> rfl), by repeat (first | (with_reducible first | exact HB.out | apply below_alloc | apply pw_below_drewN | apply below_drew1) | exact HB.out)⟩

end Go.Proofs.YtlekdblkfidciaaDoor.F
namespace Go.Proofs.YtlekdblkfidciaaDoor.F
open Go Go.Shelf Go.RowKit Go.Proofs.YtlekdblkfidciaaDoorW.PrintWords Go.Proofs.YtlekdblkfidciaaDoorW.PrintLast Go.Proofs.YtlekdblkfidciaaDoorW.PrintMore
attribute [local go_sem] max2_int min2_int max_two min_two max_three min_three max_four min_four   -- for this text's walks alone
set_option linter.unusedVariables false
set_option linter.unusedSimpArgs false

def toerr_ren : Go.Shelf.Ren := ⟨fun | 129 => 68 | 171 => 59 | 205 => 58 | 243 => 61 | 245 => 32 | 246 => 62 | 279 => 46 | 280 => 47 | 281 => 48 | 282 => 49 | 283 => 63 | 284 => 64 | 285 => 65 | 286 => 66 | 316 => 57 | 317 => 67 | 318 => 69 | 319 => 70 | 320 => 71 | 337 => 72 | 338 => 73 | n => n, fun | 0 => 0 | 2 => 2 | 3 => 3 | 4 => 4 | 5 => 5 | 9 => 9 | 20 => 20 | 37 => 35 | 46 => 42 | 51 => 61 | 53 => 37 | 75 => 39 | 80 => 52 | 127 => 66 | 143 => 87 | 145 => 89 | 167 => 70 | 168 => 72 | 171 => 94 | 173 => 97 | 210 => 84 | 212 => 100 | 213 => 101 | 232 => 105 | 233 => 106 | n => n, fun | 15 => 1 | 16 => 2 | 17 => 5 | 18 => 6 | 19 => 7 | n => n⟩
theorem toerr_lays0 : Go.Proofs.Lays.n245 Tryd.prog toerr_ren := {
  mixed := by kernel_rfl
  f129 := Tryd.func68.trans (congrArg some (by kernel_rfl))
  f171 := Tryd.func59.trans (congrArg some (by kernel_rfl))
  f205 := Tryd.func58.trans (congrArg some (by kernel_rfl))
  f243 := Tryd.func61.trans (congrArg some (by kernel_rfl))
  f245 := Tryd.func32.trans (congrArg some (by kernel_rfl))
  f246 := Tryd.func62.trans (congrArg some (by kernel_rfl))
  f279 := Tryd.func46.trans (congrArg some (by kernel_rfl))
  f280 := Tryd.func47.trans (congrArg some (by kernel_rfl))
  f281 := Tryd.func48.trans (congrArg some (by kernel_rfl))
  f282 := Tryd.func49.trans (congrArg some (by kernel_rfl))
  f283 := Tryd.func63.trans (congrArg some (by kernel_rfl))
  f284 := Tryd.func64.trans (congrArg some (by kernel_rfl))
  f285 := Tryd.func65.trans (congrArg some (by kernel_rfl))
  f286 := Tryd.func66.trans (congrArg some (by kernel_rfl))
  f316 := Tryd.func57.trans (congrArg some (by kernel_rfl))
  f317 := Tryd.func67.trans (congrArg some (by kernel_rfl))
  f318 := Tryd.func69.trans (congrArg some (by kernel_rfl))
  f319 := Tryd.func70.trans (congrArg some (by kernel_rfl))
  f320 := Tryd.func71.trans (congrArg some (by kernel_rfl))
  f337 := Tryd.func72.trans (congrArg some (by kernel_rfl))
  f338 := Tryd.func73.trans (congrArg some (by kernel_rfl))
  t0 := Tryd.underlying0
  a0 := Tryd.isAgg0
  z0 := Tryd.sizeOf0
  v0 := Tryd.zeroValue0
  t2 := Tryd.underlying2
  a2 := Tryd.isAgg2
  z2 := Tryd.sizeOf2
  v2 := Tryd.zeroValue2
  t3 := Tryd.underlying3
  a3 := Tryd.isAgg3
  z3 := Tryd.sizeOf3
  v3 := Tryd.zeroValue3
  t4 := Tryd.underlying4
  a4 := Tryd.isAgg4
  z4 := Tryd.sizeOf4
  v4 := Tryd.zeroValue4
  t5 := Tryd.underlying5
  a5 := Tryd.isAgg5
  z5 := Tryd.sizeOf5
  v5 := Tryd.zeroValue5
  t9 := Tryd.underlying9
  a9 := Tryd.isAgg9
  z9 := Tryd.sizeOf9
  v9 := Tryd.zeroValue9
  t20 := Tryd.underlying20
  a20 := Tryd.isAgg20
  z20 := Tryd.sizeOf20
  v20 := Tryd.zeroValue20
  t37 := Tryd.underlying35
  a37 := Tryd.isAgg35
  z37 := Tryd.sizeOf35
  v37 := Tryd.zeroValue35
  t46 := Tryd.underlying42
  a46 := Tryd.isAgg42
  z46 := Tryd.sizeOf42
  v46 := Tryd.zeroValue42
  t51 := Tryd.underlying61
  a51 := Tryd.isAgg61
  z51 := Tryd.sizeOf61
  v51 := Tryd.zeroValue61
  t53 := Tryd.underlying37
  a53 := Tryd.isAgg37
  z53 := Tryd.sizeOf37
  v53 := Tryd.zeroValue37
  t75 := Tryd.underlying39
  a75 := Tryd.isAgg39
  z75 := Tryd.sizeOf39
  v75 := Tryd.zeroValue39
  t127 := Tryd.underlying66
  a127 := Tryd.isAgg66
  z127 := Tryd.sizeOf66
  v127 := Tryd.zeroValue66
  t143 := Tryd.underlying87
  a143 := Tryd.isAgg87
  z143 := Tryd.sizeOf87
  v143 := Tryd.zeroValue87
  t145 := Tryd.underlying89
  a145 := Tryd.isAgg89
  z145 := Tryd.sizeOf89
  v145 := Tryd.zeroValue89
  t167 := Tryd.underlying70
  a167 := Tryd.isAgg70
  z167 := Tryd.sizeOf70
  v167 := Tryd.zeroValue70
  t168 := Tryd.underlying72
  a168 := Tryd.isAgg72
  z168 := Tryd.sizeOf72
  v168 := Tryd.zeroValue72
  t171 := Tryd.underlying94
  a171 := Tryd.isAgg94
  z171 := Tryd.sizeOf94
  v171 := Tryd.zeroValue94
  t173 := Tryd.underlying97
  a173 := Tryd.isAgg97
  z173 := Tryd.sizeOf97
  v173 := Tryd.zeroValue97
  t210 := Tryd.underlying84
  a210 := Tryd.isAgg84
  z210 := Tryd.sizeOf84
  v210 := Tryd.zeroValue84
  t212 := Tryd.underlying100
  a212 := Tryd.isAgg100
  z212 := Tryd.sizeOf100
  v212 := Tryd.zeroValue100
  t213 := Tryd.underlying101
  a213 := Tryd.isAgg101
  z213 := Tryd.sizeOf101
  t232 := Tryd.underlying105
  a232 := Tryd.isAgg105
  z232 := Tryd.sizeOf105
  v232 := Tryd.zeroValue105
  t233 := Tryd.underlying106
  a233 := Tryd.isAgg106
  z233 := Tryd.sizeOf106
  v233 := Tryd.zeroValue106
  g15 := by kernel_rfl
  g16 := by kernel_rfl
  g17 := by kernel_rfl
  g18 := by kernel_rfl
  g19 := by kernel_rfl }
theorem toerr_laysM : Go.Proofs.LaysM.n245 Tryd.prog toerr_ren := { toerr_lays0 with
  t80 := Tryd.underlying52
  a80 := Tryd.isAgg52
  z80 := Tryd.sizeOf52
  v80 := Tryd.zeroValue52
  i0 := by kernel_rfl
  i2 := by kernel_rfl
  i3 := by kernel_rfl
  i4 := by kernel_rfl
  i5 := by kernel_rfl
  i9 := by kernel_rfl
  i20 := by kernel_rfl
  i37 := by kernel_rfl
  i46 := by kernel_rfl
  i51 := by kernel_rfl
  i53 := by kernel_rfl
  i75 := by kernel_rfl
  i80 := by kernel_rfl
  i127 := by kernel_rfl
  i143 := by kernel_rfl
  i145 := by kernel_rfl
  i167 := by kernel_rfl
  i168 := by kernel_rfl
  i171 := by kernel_rfl
  i173 := by kernel_rfl
  i210 := by kernel_rfl
  i212 := by kernel_rfl
  i232 := by kernel_rfl
  i233 := by kernel_rfl
  m15 := by kernel_rfl
  m16 := by kernel_rfl
  m17 := by kernel_rfl
  m18 := by kernel_rfl
  m19 := by kernel_rfl }
theorem toerr_lays : Go.Proofs.LaysC.n245 Tryd.prog toerr_ren := { toerr_laysM with
  c0 := by kernel_rfl
  c2 := by kernel_rfl
  c3 := by kernel_rfl
  c4 := by kernel_rfl
  c5 := by kernel_rfl
  c9 := by kernel_rfl
  c20 := by kernel_rfl
  c37 := by kernel_rfl
  c46 := by kernel_rfl
  c51 := by kernel_rfl
  c53 := by kernel_rfl
  c75 := by kernel_rfl
  c80 := by kernel_rfl
  c127 := by kernel_rfl
  c143 := by kernel_rfl
  c145 := by kernel_rfl
  c167 := by kernel_rfl
  c168 := by kernel_rfl
  c171 := by kernel_rfl
  c173 := by kernel_rfl
  c210 := by kernel_rfl
  c212 := by kernel_rfl
  c213 := by kernel_rfl
  c232 := by kernel_rfl
  c233 := by kernel_rfl }
def hxC (c : Nat) : Option Nat := if 48 ≤ c ∧ c ≤ 57 then some (c - 48) else if 97 ≤ c ||| 32 ∧ c ||| 32 ≤ 102 then some ((c ||| 32) - 87) else none
def hxV : Nat → List UInt8 → Option Nat
  | acc, [] => some acc
  | acc, c :: r => match hxC c.toNat with
    | some d => hxV (acc * 16 + d) r
    | none => none
theorem hxC_low : ∀ c : Nat, c < 256 → (Go.bits .or .u8 (c : Int) 32 = ((c ||| 32 : Nat) : Int)) ∧ c ||| 32 < 256 := by
  have key : ∀ c : Fin 256, (Go.bits .or .u8 (c.val : Int) 32 = ((c.val ||| 32 : Nat) : Int)) ∧ c.val ||| 32 < 256 := by decide +kernel
  exact fun c hc => key ⟨c, hc⟩
theorem hxC_lt : ∀ c d : Nat, c < 256 → hxC c = some d → d < 16 := by
  have key : ∀ c : Fin 256, (hxC c.val).all (fun d => decide (d < 16)) = true := by decide +kernel
  intro c d hc h
  have := key ⟨c, hc⟩
  simp only at this
  rw [h] at this
  simpa using this
theorem xlower.calls (c : Int) (w : World) : Calls Tryd.prog 44 #[.int .u8 c] w fun e w' => e = .returned (.int .u8 (Go.bits .or .u8 c 32)) ∧ w' = w := by
  go_enter Tryd.func44, Tryd.ntmps44
  go_wp2
  go_ret
  exact ⟨rfl, rfl⟩
def hxRes : Option Nat → Value
  | some n => .tuple #[.int .u64 (n : Int), .nilIface]
  | none => .tuple #[.int .u64 0, .iface 70 (.int .i64 2)]
set_option maxHeartbeats 32000000 in
set_option maxRecDepth 100000 in
theorem xparse.calls (t : ByteArray) (h1 : 1 ≤ t.size) (h4 : t.size ≤ 4) (w : World) :
    Calls Tryd.prog 31 #[.string t, .int .i64 16, .int .i64 16] w fun e w' => e = .returned (hxRes (hxV 0 t.data.toList)) ∧ Below w.heap.size w w' := by
  have hemp : t.toList.isEmpty = false := by
    rw [← decide_eq_emptyBytes]
    exact decide_eq_false (fun h => by rw [h] at h1; exact absurd h1 (by decide))
  have hcv := Lib.run_convert_string_bytes (P := Tryd.prog) w 9 35 5 t (u := .string) Tryd.underlying9 Tryd.underlying35 Tryd.underlying5
  have hB : ∀ j, j < t.size → (Lib.bytesWorld w 5 t).cell? ⟨w.heap.size, j, none⟩ = some (.int .u8 (t.data.toList.getD j 0).toNat) := fun j hj => Lib.bytesWorld_cell w 5 t j hj
  have hBel : Below w.heap.size w (Lib.bytesWorld w 5 t) := bytes_below (Below.refl _ _) (Nat.le_refl _) 5 t
  obtain ⟨W1, hW1⟩ : ∃ W1, W1 = Lib.bytesWorld w 5 t := ⟨_, rfl⟩
  rw [← hW1] at hcv hB hBel
  clear hW1
  obtain ⟨bs, hL⟩ : ∃ bs, bs = t.data.toList := ⟨_, rfl⟩
  have hLn : bs.length = t.size := by rw [hL, Lib.size_eq]
  rw [← hL] at hB ⊢
  clear hL
  have HBel := Aside0.mk hBel
  clear hBel
  go_enter Tryd.func31, Tryd.ntmps31
  go_wp2
  go_loop [12, 13, 101] (fun vu vn vi => ∃ (k acc : Nat) (a : Int), vu = .bool false ∧ vn = .int .u64 a ∧ vi = .int .i64 k ∧ k ≤ t.size ∧ Aside0 (a = (acc : Int) ∧ acc < 16 ^ k ∧ hxV 0 bs = hxV acc (bs.drop k)))
    (fun _ _ vi => t.size - (intOf vi).toNat)
  case atStart => exact ⟨0, 0, 0, rfl, rfl, rfl, Nat.zero_le _, ⟨rfl, by decide, rfl⟩⟩
  case round =>
    obtain ⟨k, acc, a, rfl, rfl, rfl, hk, hh⟩ := hrel
    obtain ⟨ha, hacc, hdec⟩ := hh.out
    clear hh
    by_cases hkn : k < t.size
    · have hc := hB k hkn
      have hdrop : bs.drop k = bs[k]'(by omega) :: bs.drop (k + 1) := List.drop_eq_getElem_cons (by omega)
      have hget : bs.getD k 0 = bs[k]'(by omega) := by simp [List.getD, List.getElem?_eq_getElem (show k < bs.length by omega)]
      rw [hdrop] at hdec
      rw [hget] at hc
      generalize bs[k]'(by omega) = cb at hc hdec
      have hc256 : cb.toNat < 256 := cb.toNat_lt
      obtain ⟨hlo, hlo2⟩ := hxC_low cb.toNat hc256
      have hlt := hxC_lt cb.toNat
      obtain ⟨c, hcc⟩ : ∃ c, c = cb.toNat := ⟨_, rfl⟩
      rw [hxV, ← hcc] at hdec
      rw [← hcc] at hc hc256 hlo hlo2 hlt
      clear hcc hB hdrop hget
      obtain ⟨m, hm⟩ : ∃ m, m = c ||| 32 := ⟨_, rfl⟩
      have hxc : hxC c = if 48 ≤ c ∧ c ≤ 57 then some (c - 48) else if 97 ≤ m ∧ m ≤ 102 then some (m - 87) else none := by rw [hm]; rfl
      have h95 : c = 95 → m = 127 := fun h => by rw [hm, h]; decide
      rw [← hm] at hlo hlo2
      clear hm
      have hacc4 : acc ≤ 4095 := by
        have : 16 ^ k ≤ 16 ^ 3 := Nat.pow_le_pow_right (by decide) (by omega)
        omega
      have icut : a < 1152921504606846976 := by omega
      have a0 : 0 ≤ a := by omega
      have stepOk : ∀ d, hxC c = some d → Aside0 (a * 16 + (d : Int) = ((acc * 16 + d : Nat) : Int) ∧ acc * 16 + d < 16 ^ (k + 1) ∧ hxV 0 bs = hxV (acc * 16 + d) (bs.drop (k + 1))) ∧ a * 16 + (d : Int) ≤ 65535 := by
        intro d hd
        have hd16 := hlt d hc256 hd
        rw [hd] at hdec
        exact ⟨⟨by omega, by rw [Nat.pow_succ]; omega, hdec⟩, by omega⟩
      clear hacc hacc4 ha
      by_cases hdig : 48 ≤ c ∧ c ≤ 57
      · obtain ⟨hd0, hd1⟩ := hdig
        rw [if_pos ⟨hd0, hd1⟩] at hxc
        obtain ⟨HN, iov⟩ := stepOk _ hxc
        have HXC := Aside0.mk hxc
        have HD := Aside0.mk hdec
        clear stepOk hxc hdec hlt hlo hlo2
        have hsub : ((c - 48 : Nat) : Int) = (c : Int) - 48 := by omega
        rw [hsub] at iov
        have HN2 := HN.out
        rw [hsub] at HN2
        have HN3 := Aside0.mk HN2
        clear HN HN2 hsub
        go_wp2
        exact ⟨⟨k + 1, acc * 16 + (c - 48), a * 16 + ((c : Int) - 48), rfl, rfl, by go_num, by omega, HN3⟩, by simp [intOf]; omega⟩
      · rw [if_neg hdig] at hxc
        by_cases hlet : 97 ≤ m ∧ m ≤ 102
        · rw [if_pos hlet] at hxc
          obtain ⟨hl0, hl1⟩ := hlet
          obtain ⟨HN, iov⟩ := stepOk _ hxc
          have hsub : ((m - 87 : Nat) : Int) = (m : Int) - 97 + 10 := by omega
          rw [hsub] at iov
          have HN2 := HN.out
          rw [hsub] at HN2
          have HN3 := Aside0.mk HN2
          have HXC := Aside0.mk hxc
          have HD := Aside0.mk hdec
          have hne : c ≠ 95 := fun h => by have := h95 h; omega
          have q0 : ((c : Int) == 95) = false := beq_eq_false_iff_ne.mpr (by omega)
          have q1 : (c == 95) = false := beq_eq_false_iff_ne.mpr hne
          have q2 : ((c : Int) = 95) = False := eq_false (by omega)
          clear stepOk hxc hdec hlt HN HN2 hsub h95
          rcases (by omega : c < 48 ∨ 57 < c) with hd | hd
          · clear hdig
            go_wp2_with (go_at_call 44; refine (xlower.calls _ _).mono ?_; rintro e w' ⟨rfl, rfl⟩)
            exact ⟨⟨k + 1, acc * 16 + (m - 87), a * 16 + ((m : Int) - 97 + 10), rfl, rfl, by go_num, by omega, HN3⟩, by simp [intOf]; omega⟩
          · clear hdig
            go_wp2_with (go_at_call 44; refine (xlower.calls _ _).mono ?_; rintro e w' ⟨rfl, rfl⟩)
            exact ⟨⟨k + 1, acc * 16 + (m - 87), a * 16 + ((m : Int) - 97 + 10), rfl, rfl, by go_num, by omega, HN3⟩, by simp [intOf]; omega⟩
        · rw [if_neg hlet] at hxc
          have hbad : hxV 0 bs = none := by
            rw [hdec, hxc]
          replace hbad := Aside0.mk hbad
          clear stepOk hxc hdec hlt
          by_cases hne : c = 95
          · have h127 := h95 hne
            subst hne
            subst h127
            have hlo3 : Go.bits .or .u8 95 32 = 127 := by decide
            clear hdig hlet hlo h95
            go_wp2_with (go_at_call 44; refine (xlower.calls _ _).mono ?_; rintro e w' ⟨rfl, rfl⟩)
            go_ret2
            exact ⟨by rw [hbad.out]; rfl, HBel.out⟩
          · have q0 : ((c : Int) == 95) = false := beq_eq_false_iff_ne.mpr (by omega)
            have q1 : (c == 95) = false := beq_eq_false_iff_ne.mpr hne
            have q2 : ((c : Int) = 95) = False := eq_false (by omega)
            clear h95
            rcases (by omega : c < 48 ∨ 57 < c) with hd | hd <;> rcases (by omega : m < 97 ∨ 122 < m ∨ (102 < m ∧ m ≤ 122)) with hq | hq | ⟨hq, hq2⟩ <;> clear hdig hlet
            all_goals go_wp2_with (go_at_call 44; refine (xlower.calls _ _).mono ?_; rintro e w' ⟨rfl, rfl⟩)
            all_goals go_ret2
            all_goals exact ⟨by rw [hbad.out]; rfl, HBel.out⟩
    · obtain rfl : k = t.size := by omega
      rw [List.drop_eq_nil_of_le (by omega)] at hdec
      have HD := Aside0.mk (show hxV 0 bs = some acc from hdec)
      subst ha
      clear hdec hacc
      go_wp2
      go_ret2
      exact ⟨by rw [HD.out]; rfl, HBel.out⟩
def GlobE (w : World) : Prop := ∃ ev, w.cell? ⟨1, 0, none⟩ = some ev ∧ (ev = .nilIface ∨ ∃ te pe, ev = .iface te pe)
theorem GlobE.below {w W : World} (h : GlobE w) (hb : Below w.heap.size w W) : GlobE W := by
  obtain ⟨ev, h1, h2⟩ := h
  exact ⟨ev, (hb.cell (World.block_lt_of_cell? w _ h1)).trans h1, h2⟩
set_option maxHeartbeats 8000000 in
set_option maxRecDepth 100000 in
theorem xparseU.calls (t : ByteArray) (h1 : 1 ≤ t.size) (h4 : t.size ≤ 4) (w : World) (hG : GlobE w) :
    Calls Tryd.prog 18 #[.string t, .int .i64 16, .int .i64 16] w fun e w' => (∃ ev, e = .returned (.tuple #[.int .u64 (((hxV 0 t.data.toList).getD 0 : Nat) : Int), ev]) ∧ ((hxV 0 t.data.toList).isSome = true → ev = .nilIface) ∧ ((hxV 0 t.data.toList).isSome = false → ∃ N, ev = .iface 72 (.pointer (some ⟨N, 0, none⟩)))) ∧ Below w.heap.size w w' := by
  have HG := Aside0.mk hG
  have H1 := Aside0.mk h1
  have H4 := Aside0.mk h4
  clear hG h1 h4
  obtain ⟨o, ho⟩ : ∃ o, o = hxV 0 t.data.toList := ⟨_, rfl⟩
  rw [← ho]
  replace ho := Aside0.mk ho
  cases o with
  | some n =>
    simp only [Option.getD_some, Option.isSome_some]
    go_enter Tryd.func18, Tryd.ntmps18
    go_wp2_with (go_at_call 31; refine (xparse.calls t H1.out H4.out _).mono ?_; rintro e w1 ⟨rfl, hb⟩; have HB := Aside0.mk hb; clear hb; rw [← ho.out]; simp only [hxRes])
    go_ret2
    exact ⟨⟨_, rfl, fun _ => rfl, fun h => by cases h⟩, HB.out⟩
  | none =>
    simp only [Option.getD_none, Option.isSome_none]
    go_enter Tryd.func18, Tryd.ntmps18
    go_wp2_with (first | (go_at_call 31; refine (xparse.calls t H1.out H4.out _).mono ?_; rintro e w1 ⟨rfl, hb⟩; have HB := Aside0.mk hb; clear hb; rw [← ho.out]; simp only [hxRes]; obtain ⟨ev, hv, hev⟩ := HG.out.below HB.out; have HV := Aside0.mk hv; have HEV := Aside0.mk hev; clear hv hev) | (go_at_call 32; refine (Go.Proofs.Any.strconv_toError_syntax toerr_lays _ t 16 16 ev _ (by have := H4.out; omega) HV.out HEV.out).mono ?_; rintro e w2 ⟨N, rfl, _, _, hb⟩; have HB2 := Aside0.mk (below_step HB.out hb); clear hb))
    go_ret2
    exact ⟨⟨_, rfl, fun h => (by cases h), fun _ => ⟨N, rfl⟩⟩, HB2.out⟩
def xhex.f (s : ByteArray) : Option (Int × Bool) := if 1 ≤ s.size ∧ s.size ≤ 4 then some ((((hxV 0 s.data.toList).getD 0 : Nat) : Int), (hxV 0 s.data.toList).isNone) else none
theorem xhexF.calls (s : ByteArray) (r : Int) (w : World) (hG : GlobE w) (h : xhex.f s = some (r, false)) :
    Calls Tryd.prog 18 #[.string s, .int .i64 16, .int .i64 16] w fun e w' => e = .returned (.tuple #[.int .u64 r, .nilIface]) ∧ Below w.heap.size w w' := by
  unfold xhex.f at h
  split at h
  case isFalse => cases h
  case isTrue hs =>
  simp only [Option.some.injEq, Prod.mk.injEq] at h
  obtain ⟨rfl, h2⟩ := h
  refine (xparseU.calls s hs.1 hs.2 w hG).mono ?_
  rintro e w' ⟨⟨ev, rfl, h3, _⟩, hb⟩
  have : (hxV 0 s.data.toList).isSome = true := by
    cases hh : hxV 0 s.data.toList with
    | none => rw [hh] at h2; cases h2
    | some n => rfl
  rw [h3 this]
  exact ⟨rfl, hb⟩
theorem xhexT.calls (s : ByteArray) (r : Int) (w : World) (hG : GlobE w) (h : xhex.f s = some (r, true)) :
    Calls Tryd.prog 18 #[.string s, .int .i64 16, .int .i64 16] w fun e w' => ∃ N : Nat, e = .returned (.tuple #[.int .u64 r, .iface 72 (.pointer (some ⟨N, 0, none⟩))]) ∧ Below w.heap.size w w' := by
  unfold xhex.f at h
  split at h
  case isFalse => cases h
  case isTrue hs =>
  simp only [Option.some.injEq, Prod.mk.injEq] at h
  obtain ⟨rfl, h2⟩ := h
  refine (xparseU.calls s hs.1 hs.2 w hG).mono ?_
  rintro e w' ⟨⟨ev, rfl, _, h3⟩, hb⟩
  have : (hxV 0 s.data.toList).isSome = false := by
    cases hh : hxV 0 s.data.toList with
    | none => rfl
    | some n => rw [hh] at h2; cases h2
  obtain ⟨N, rfl⟩ := h3 this
  exact ⟨N, rfl, hb⟩

/-! ### impl_groups: function 8 -/
mutual
def impl_groups.l0 : Nat → Bool → List Int → List ByteArray → List ByteArray → Int → Int → Option (ByteArray × Bool)
  | 0, _, _, _, _, _, _ => none
  | k + 1, x1, x6, x7, x18, x19, x20 => if x20 < x19 then (if 0 ≤ x20 then (if x20 < (x18.length : Int) then (if x1 = true then (impl_groups.j1 k x1 x6 x7 (rdOf ByteArray.empty x18 x20) x18 x19 x20 (x20 == (wrap64 ((x7.length : Int) - 1)))) else (impl_groups.j1 k x1 x6 x7 (rdOf ByteArray.empty x18 x20) x18 x19 x20 false)) else (none)) else (none)) else (some (strOfNums x6, true))
def impl_groups.j1 : Nat → Bool → List Int → List ByteArray → ByteArray → List ByteArray → Int → Int → Bool → Option (ByteArray × Bool)
  | 0, _, _, _, _, _, _, _, _ => none
  | k + 1, x1, x6, x7, x9, x18, x19, x20, x32 => if x32 = true then ((impl_ReadV4.f k x9).bind fun bt105 => (if bt105.2 = 0 then (if x6.length + bt105.1.size < 140737488355328 then (impl_groups.l0 k x1 (x6 ++ bytesOf bt105.1) x7 x18 x19 (wrap64 (x20 + 1))) else (none)) else (impl_groups.j2 k x1 x6 x7 x9 x18 x19 x20))) else (impl_groups.j2 k x1 x6 x7 x9 x18 x19 x20)
def impl_groups.j2 : Nat → Bool → List Int → List ByteArray → ByteArray → List ByteArray → Int → Int → Option (ByteArray × Bool)
  | 0, _, _, _, _, _, _, _ => none
  | k + 1, x1, x6, x7, x9, x18, x19, x20 => if (x9.size : Int) < 1 then (impl_groups.j3 k x1 x6 x7 x9 x18 x19 x20 true) else (impl_groups.j3 k x1 x6 x7 x9 x18 x19 x20 (decide ((x9.size : Int) > 4)))
def impl_groups.j3 : Nat → Bool → List Int → List ByteArray → ByteArray → List ByteArray → Int → Int → Bool → Option (ByteArray × Bool)
  | 0, _, _, _, _, _, _, _, _ => none
  | k + 1, x1, x6, x7, x9, x18, x19, x20, x50 => if x50 = true then (some ((⟨#[]⟩ : ByteArray), false)) else ((xhex.f x9).bind fun bt110 => (if bt110.2 = true then (some ((⟨#[]⟩ : ByteArray), false)) else ((some (([(bt110.1 / 256) % 256, (bt110.1) % 256] : List Int) : List Int)).bind fun y112 => (if x6.length + y112.length < 140737488355328 then (impl_groups.l0 k x1 (x6 ++ y112) x7 x18 x19 (wrap64 (x20 + 1))) else (none)))))
end
def impl_groups.f (k : Nat) (a0 : ByteArray) (a1 : Bool) : Option (ByteArray × Bool) := if a0.toList = ([] : List UInt8) then (some ((⟨#[]⟩ : ByteArray), true)) else ((strings_Split.f a0 (⟨#[58]⟩ : ByteArray)).bind fun t101 => (impl_groups.l0 k a1 ([] : List Int) t101 t101 (t101.length : Int) 0))
theorem impl_groups.mono_l : ∀ k, (∀ y0 y1 y2 y3 y4 y5, LeO (impl_groups.l0 k y0 y1 y2 y3 y4 y5) (impl_groups.l0 (k + 1) y0 y1 y2 y3 y4 y5)) ∧ (∀ y0 y1 y2 y3 y4 y5 y6 y7, LeO (impl_groups.j1 k y0 y1 y2 y3 y4 y5 y6 y7) (impl_groups.j1 (k + 1) y0 y1 y2 y3 y4 y5 y6 y7)) ∧ (∀ y0 y1 y2 y3 y4 y5 y6, LeO (impl_groups.j2 k y0 y1 y2 y3 y4 y5 y6) (impl_groups.j2 (k + 1) y0 y1 y2 y3 y4 y5 y6)) ∧ (∀ y0 y1 y2 y3 y4 y5 y6 y7, LeO (impl_groups.j3 k y0 y1 y2 y3 y4 y5 y6 y7) (impl_groups.j3 (k + 1) y0 y1 y2 y3 y4 y5 y6 y7))
  | 0 => ⟨fun _ _ _ _ _ _ r h => by simp [impl_groups.l0] at h, fun _ _ _ _ _ _ _ _ r h => by simp [impl_groups.j1] at h, fun _ _ _ _ _ _ _ r h => by simp [impl_groups.j2] at h, fun _ _ _ _ _ _ _ _ r h => by simp [impl_groups.j3] at h⟩
  | k + 1 => by
    obtain ⟨ih0, ih1, ih2, ih3⟩ := impl_groups.mono_l k
    refine ⟨?_, ?_, ?_, ?_⟩
    · intro y0 y1 y2 y3 y4 y5
      unfold impl_groups.l0
      repeat' first
      | (with_reducible exact ih0 _ _ _ _ _ _)
      | (with_reducible exact ih1 _ _ _ _ _ _ _ _)
      | (with_reducible exact ih2 _ _ _ _ _ _ _)
      | (with_reducible exact ih3 _ _ _ _ _ _ _ _)
      | (with_reducible exact impl_ReadV4.mono _ _)
      | (with_reducible exact LeO.refl _)
      | (with_reducible exact LeO.none _)
      | (with_reducible refine LeO.ite ?_ ?_)
      | (with_reducible refine LeO.bind ?_ (fun _ => ?_))
      | exact ih0 _ _ _ _ _ _
      | exact ih1 _ _ _ _ _ _ _ _
      | exact ih2 _ _ _ _ _ _ _
      | exact ih3 _ _ _ _ _ _ _ _
      | exact impl_ReadV4.mono _ _
      | exact LeO.none _
      | refine LeO.ite ?_ ?_
      | refine LeO.bind ?_ (fun _ => ?_)
    · intro y0 y1 y2 y3 y4 y5 y6 y7
      unfold impl_groups.j1
      repeat' first
      | (with_reducible exact ih0 _ _ _ _ _ _)
      | (with_reducible exact ih1 _ _ _ _ _ _ _ _)
      | (with_reducible exact ih2 _ _ _ _ _ _ _)
      | (with_reducible exact ih3 _ _ _ _ _ _ _ _)
      | (with_reducible exact impl_ReadV4.mono _ _)
      | (with_reducible exact LeO.refl _)
      | (with_reducible exact LeO.none _)
      | (with_reducible refine LeO.ite ?_ ?_)
      | (with_reducible refine LeO.bind ?_ (fun _ => ?_))
      | exact ih0 _ _ _ _ _ _
      | exact ih1 _ _ _ _ _ _ _ _
      | exact ih2 _ _ _ _ _ _ _
      | exact ih3 _ _ _ _ _ _ _ _
      | exact impl_ReadV4.mono _ _
      | exact LeO.none _
      | refine LeO.ite ?_ ?_
      | refine LeO.bind ?_ (fun _ => ?_)
    · intro y0 y1 y2 y3 y4 y5 y6
      unfold impl_groups.j2
      repeat' first
      | (with_reducible exact ih0 _ _ _ _ _ _)
      | (with_reducible exact ih1 _ _ _ _ _ _ _ _)
      | (with_reducible exact ih2 _ _ _ _ _ _ _)
      | (with_reducible exact ih3 _ _ _ _ _ _ _ _)
      | (with_reducible exact impl_ReadV4.mono _ _)
      | (with_reducible exact LeO.refl _)
      | (with_reducible exact LeO.none _)
      | (with_reducible refine LeO.ite ?_ ?_)
      | (with_reducible refine LeO.bind ?_ (fun _ => ?_))
      | exact ih0 _ _ _ _ _ _
      | exact ih1 _ _ _ _ _ _ _ _
      | exact ih2 _ _ _ _ _ _ _
      | exact ih3 _ _ _ _ _ _ _ _
      | exact impl_ReadV4.mono _ _
      | exact LeO.none _
      | refine LeO.ite ?_ ?_
      | refine LeO.bind ?_ (fun _ => ?_)
    · intro y0 y1 y2 y3 y4 y5 y6 y7
      unfold impl_groups.j3
      repeat' first
      | (with_reducible exact ih0 _ _ _ _ _ _)
      | (with_reducible exact ih1 _ _ _ _ _ _ _ _)
      | (with_reducible exact ih2 _ _ _ _ _ _ _)
      | (with_reducible exact ih3 _ _ _ _ _ _ _ _)
      | (with_reducible exact impl_ReadV4.mono _ _)
      | (with_reducible exact LeO.refl _)
      | (with_reducible exact LeO.none _)
      | (with_reducible refine LeO.ite ?_ ?_)
      | (with_reducible refine LeO.bind ?_ (fun _ => ?_))
      | exact ih0 _ _ _ _ _ _
      | exact ih1 _ _ _ _ _ _ _ _
      | exact ih2 _ _ _ _ _ _ _
      | exact ih3 _ _ _ _ _ _ _ _
      | exact impl_ReadV4.mono _ _
      | exact LeO.none _
      | refine LeO.ite ?_ ?_
      | refine LeO.bind ?_ (fun _ => ?_)
theorem impl_groups.mono : ∀ a0 a1 k, LeO (impl_groups.f k a0 a1) (impl_groups.f (k + 1) a0 a1) := by
  intro a0 a1 k
  obtain ⟨ih0, ih1, ih2, ih3⟩ := impl_groups.mono_l k
  unfold impl_groups.f
  repeat' first
      | (with_reducible exact ih0 _ _ _ _ _ _)
      | (with_reducible exact ih1 _ _ _ _ _ _ _ _)
      | (with_reducible exact ih2 _ _ _ _ _ _ _)
      | (with_reducible exact ih3 _ _ _ _ _ _ _ _)
      | (with_reducible exact impl_ReadV4.mono _ _)
      | (with_reducible exact LeO.refl _)
      | (with_reducible exact LeO.none _)
      | (with_reducible refine LeO.ite ?_ ?_)
      | (with_reducible refine LeO.bind ?_ (fun _ => ?_))
      | exact ih0 _ _ _ _ _ _
      | exact ih1 _ _ _ _ _ _ _ _
      | exact ih2 _ _ _ _ _ _ _
      | exact ih3 _ _ _ _ _ _ _ _
      | exact impl_ReadV4.mono _ _
      | exact LeO.none _
      | refine LeO.ite ?_ ?_
      | refine LeO.bind ?_ (fun _ => ?_)
set_option maxHeartbeats 8000000 in
set_option maxRecDepth 100000 in
theorem impl_groups.calls (k : Nat) (a0 : ByteArray) (a1 : Bool) (r1 : ByteArray) (r2 : Bool) (w : World) (h : impl_groups.f k a0 a1 = some (r1, r2)) (hGLen : GlobLen w) (hGE : GlobE w) :
    Calls Tryd.prog 8 #[.string a0, .bool a1] w fun e w' => e = .returned (.tuple #[.string r1, .bool r2]) ∧ Below w.heap.size w w' := by
  have HGLen := Aside0.mk hGLen
  clear hGLen
  have HGE := Aside0.mk hGE
  clear hGE
  have HB := Aside0.mk (Below.refl w.heap.size w)
  have H : (if a0.toList = ([] : List UInt8) then (some ((⟨#[]⟩ : ByteArray), true)) else ((strings_Split.f a0 (⟨#[58]⟩ : ByteArray)).bind fun t101 => (impl_groups.l0 k a1 ([] : List Int) t101 t101 (t101.length : Int) 0))) = some (r1, r2) := h
  clear h
  by_cases c3 : a0.toList = ([] : List UInt8)
  · rw [if_pos c3] at H
    have c3b0 : (a0.toList == ([] : List UInt8)) = true := beq_iff_eq.mpr c3
    have c3b1 : (a0.toList != ([] : List UInt8)) = false := bne_eq_false_iff_eq.mpr c3
    clear c3
    simp only [Option.some.injEq, Prod.mk.injEq] at H
    obtain ⟨rfl, rfl⟩ := H
    go_enter Tryd.func8, Tryd.ntmps8
    go_wp2
    go_ret2
    exact ⟨by first | rfl | (simp [errW_none, errW_some] <;> rfl) | (simp [*, errW_none, errW_some] <;> rfl), by repeat (first | (with_reducible first | exact HB.out | apply below_alloc | apply pw_below_drewN | apply below_drew1) | exact HB.out)⟩
  · rw [if_neg c3] at H
    have c3b0 : (a0.toList == ([] : List UInt8)) = false := beq_eq_false_iff_ne.mpr c3
    have c3b1 : (a0.toList != ([] : List UInt8)) = true := bne_iff_ne.mpr c3
    replace H := Option.bind_eq_some_iff.mp H
    obtain ⟨t101, A40, H⟩ := H
    replace H : (impl_groups.l0 k a1 ([] : List Int) t101 t101 (t101.length : Int) 0) = some (r1, r2) := H
    have A4 := Aside0.mk A40
    clear A40
    have H' := Aside0.mk H
    clear H
    go_enter Tryd.func8, Tryd.ntmps8
    go_wp2_with (first | ((with_reducible refine gate_callee (f := 16) rfl ?_); refine goesL_ (some 17) rfl rfl Tryd.func16 (by kernel_rfl) rfl #[.string a0, .string (⟨#[58]⟩ : ByteArray)] rfl (by (try simp only [List.map_toArray, List.map_cons, List.map_nil]); first | done | rfl | (simp only [List.length_drop, List.length_take]; rfl)) ?_; (with_reducible refine (strings_Split.calls a0 (⟨#[58]⟩ : ByteArray) t101 _ A4.out (HGLen.out.below (by repeat (first | (with_reducible first | exact HB.out | apply below_alloc | apply pw_below_drewN | apply below_drew1) | exact HB.out)))).mono ?_); rintro e w5 ⟨v102, rfl, ho0, hb⟩; refine ⟨_, rfl, ?_⟩; have n0_ := Aside0.mk (Kd.R_lower ho0 (below_size (by repeat (first | (with_reducible first | exact HB.out | apply below_alloc | apply pw_below_drewN | apply below_drew1) | exact HB.out)))); have n1_ := Aside0.mk (below_step (by repeat (first | (with_reducible first | exact HB.out | apply below_alloc | apply pw_below_drewN | apply below_drew1) | exact HB.out)) hb); clear HB; have HO103 := n0_; have HB := n1_; clear n0_ n1_; (try clear hb); (try clear hb2); (try clear hk); (try clear hi); (try clear ho0); obtain ⟨Ao6, co6, eo6⟩ := Kd.R_slice HO103.out; subst eo6))
    go_loopg [6, 20] k (fun kq v6 v20 w' => ∃ (x6_1 : List Int) (x20_1 : Int), v20 = .int .i64 x20_1 ∧ Aside0 (impl_groups.l0 kq a1 x6_1 t101 t101 (t101.length : Int) x20_1 = some (r1, r2)) ∧ Aside0 (kq ≤ k) ∧ Aside0 (Kd.R (Kd.int .u8) 5 w' w.heap.size (fun _ => True) v6 x6_1) ∧ Aside0 (Kd.R Kd.string 9 w' w.heap.size (fun _ => True) (.slice Ao6 t101.length co6) t101) ∧ Aside0 (Kd.R Kd.string 9 w' w.heap.size (fun _ => True) (.slice Ao6 t101.length co6) t101) ∧ Aside0 (Below w.heap.size w w'))
    case atStart => exact ⟨(([] : List Int)), (0), (by first | rfl | (simp; done) | (simp [*]; done)), H', ⟨Nat.le_refl _⟩, ⟨by first | exact Kd.R_nil _ _ _ _ _ | exact Kd.N_nil _ _ _ _ _ | exact Kd.V_nil _ _ _ _ _ | exact Kd.Q_nil _ _ _ _ _ | exact Kd.S_nil _ _ _ _ _⟩, ⟨by (with_reducible repeat (first | apply Kd.R_alloc | apply Kd.R_drewN | apply Kd.R_drew)); exact HO103.out⟩, ⟨by (with_reducible repeat (first | apply Kd.R_alloc | apply Kd.R_drewN | apply Kd.R_drew)); exact HO103.out⟩, ⟨by repeat (first | (with_reducible first | exact HB.out | apply below_alloc | apply pw_below_drewN | apply below_drew1) | exact HB.out)⟩⟩
    case round =>
      clear H'
      try clear c1
      try clear p2
      try clear c3
      try clear c3b0
      try clear c3b1
      obtain ⟨x6_1, x20_1, rfl, HA, HK1, HO_6, HO_7, HO_18, HB⟩ := hrel
      cases gk with
      | zero => exact absurd HA.out (by simp [impl_groups.l0])
      | succ k1 =>
        have H := HA.out
        clear HA
        simp only [impl_groups.l0] at H
        by_cases c7 : x20_1 < (t101.length : Int)
        · rw [if_pos c7] at H
          have c7b0 : decide (x20_1 < (t101.length : Int)) = true := decide_eq_true c7
          clear c7
          by_cases c8 : 0 ≤ x20_1
          · rw [if_pos c8] at H
            have c8b0 : decide (0 ≤ x20_1) = true := decide_eq_true c8
            clear c8
            by_cases c9 : x20_1 < (t101.length : Int)
            · rw [if_pos c9] at H
              have c9b0 : decide (x20_1 < (t101.length : Int)) = true := decide_eq_true c9
              clear c9
              have HC10 := Aside0.mk H
              clear H
              have p104 : 0 ≤ (x20_1 : Int) := of_decide_eq_true (by first | (with_reducible assumption) | assumption)
              have q104 : x20_1 < (t101.length : Int) := of_decide_eq_true (by first | (with_reducible assumption) | assumption)
              obtain ⟨ad104, e104, hx104_0⟩ := Kd.at_string (Kd.R_reads' HO_18.out).2.2 x20_1 p104 q104
              cases e104
              replace p104 := eq_true p104
              replace q104 := eq_true q104
              go_upto_region 8 with (fail)
              go_cut [32] (fun v32 wc => ∃ (kq : Nat) (x32_9 : Bool), v32 = .bool x32_9 ∧ Aside0 (impl_groups.j1 kq a1 x6_1 t101 (rdOf ByteArray.empty t101 x20_1) t101 (t101.length : Int) x20_1 x32_9 = some (r1, r2)) ∧ Aside0 (kq ≤ k1) ∧ Aside0 (Kd.R (Kd.int .u8) 5 wc w.heap.size (fun _ => True) u6 x6_1) ∧ Aside0 (Kd.R Kd.string 9 wc w.heap.size (fun _ => True) (.slice (some ad104) t101.length co6) t101) ∧ Aside0 (Kd.R Kd.string 9 wc w.heap.size (fun _ => True) (.slice (some ad104) t101.length co6) t101) ∧ Aside0 (Below w.heap.size w wc))
              case first =>
                have H := HC10.out
                clear HC10
                by_cases c11 : a1 = true
                · subst c11
                  have H1 : (impl_groups.j1 k1 true x6_1 t101 (rdOf ByteArray.empty t101 x20_1) t101 (t101.length : Int) x20_1 (x20_1 == (wrap64 ((t101.length : Int) - 1)))) = some (r1, r2) := by rw [if_pos rfl] at H; exact H
                  clear H
                  have H := H1
                  clear H1
                  have H' := Aside0.mk H
                  clear H
                  go_wp2
                  go_meet
                  case rel => exact ⟨_, ((x20_1 == (wrap64 ((t101.length : Int) - 1)))), (by first | rfl | (simp; done) | (simp [*]; done)), H', ⟨by have := HK1.out; first | omega | exact Nat.le_refl _⟩, ⟨by (with_reducible repeat (first | apply Kd.R_alloc | apply Kd.R_drewN | apply Kd.R_drew)); exact HO_6.out⟩, ⟨by (with_reducible repeat (first | apply Kd.R_alloc | apply Kd.R_drewN | apply Kd.R_drew)); exact HO_7.out⟩, ⟨by (with_reducible repeat (first | apply Kd.R_alloc | apply Kd.R_drewN | apply Kd.R_drew)); exact HO_18.out⟩, ⟨by repeat (first | (with_reducible first | exact HB.out | apply below_alloc | apply pw_below_drewN | apply below_drew1) | exact HB.out)⟩⟩
                · replace c11 := Bool.eq_false_iff.mpr c11
                  subst c11
                  have H1 : (impl_groups.j1 k1 false x6_1 t101 (rdOf ByteArray.empty t101 x20_1) t101 (t101.length : Int) x20_1 false) = some (r1, r2) := by rw [if_neg (show ¬ (false = true) by decide)] at H; exact H
                  clear H
                  have H := H1
                  clear H1
                  have H' := Aside0.mk H
                  clear H
                  go_wp2
                  go_meet
                  case rel => exact ⟨_, (false), (by first | rfl | (simp; done) | (simp [*]; done)), H', ⟨by have := HK1.out; first | omega | exact Nat.le_refl _⟩, ⟨by (with_reducible repeat (first | apply Kd.R_alloc | apply Kd.R_drewN | apply Kd.R_drew)); exact HO_6.out⟩, ⟨by (with_reducible repeat (first | apply Kd.R_alloc | apply Kd.R_drewN | apply Kd.R_drew)); exact HO_7.out⟩, ⟨by (with_reducible repeat (first | apply Kd.R_alloc | apply Kd.R_drewN | apply Kd.R_drew)); exact HO_18.out⟩, ⟨by repeat (first | (with_reducible first | exact HB.out | apply below_alloc | apply pw_below_drewN | apply below_drew1) | exact HB.out)⟩⟩
              case rest =>
                clear HC10
                try clear c1
                try clear p1
                try clear q1
                try clear hx1
                try clear p2
                try clear c3
                try clear c3b0
                try clear c3b1
                try clear p6
                try clear c7
                try clear c7b0
                try clear c8
                try clear c8b0
                try clear c9
                try clear c9b0
                try clear p10
                try clear q10
                try clear hx10
                try clear c11
                try clear hx104_0
                try clear p104
                try clear p2
                try clear q104
                obtain ⟨kq, x32_9, rfl, HA, HJ9, HO_6, HO_7, HO_18, HB⟩ := hcut
                cases kq with
                | zero => exact absurd HA.out (by simp [impl_groups.j1])
                | succ kj9 =>
                  have H := HA.out
                  clear HA
                  simp only [impl_groups.j1] at H
                  have HC12 := Aside0.mk H
                  clear H
                  go_upto_if 32 with (fail)
                  go_cut [6] (fun v6 wc => ∃ (kq : Nat) (x6_11 : List Int), Aside0 (impl_groups.j2 kq a1 x6_11 t101 (rdOf ByteArray.empty t101 x20_1) t101 (t101.length : Int) x20_1 = some (r1, r2)) ∧ Aside0 (kq ≤ kj9) ∧ Aside0 (Kd.R (Kd.int .u8) 5 wc w.heap.size (fun _ => True) v6 x6_11) ∧ Aside0 (Kd.R Kd.string 9 wc w.heap.size (fun _ => True) (.slice (some ad104) t101.length co6) t101) ∧ Aside0 (Kd.R Kd.string 9 wc w.heap.size (fun _ => True) (.slice (some ad104) t101.length co6) t101) ∧ Aside0 (Below w.heap.size w wc))
                  case first =>
                    have H := HC12.out
                    clear HC12
                    by_cases c13 : x32_9 = true
                    · subst c13
                      have H1 : ((impl_ReadV4.f kj9 (rdOf ByteArray.empty t101 x20_1)).bind fun bt105 => (if bt105.2 = 0 then (if x6_1.length + bt105.1.size < 140737488355328 then (impl_groups.l0 kj9 a1 (x6_1 ++ bytesOf bt105.1) t101 t101 (t101.length : Int) (wrap64 (x20_1 + 1))) else (none)) else (impl_groups.j2 kj9 a1 x6_1 t101 (rdOf ByteArray.empty t101 x20_1) t101 (t101.length : Int) x20_1))) = some (r1, r2) := by rw [if_pos rfl] at H; exact H
                      clear H
                      have H := H1
                      clear H1
                      replace H := Option.bind_eq_some_iff.mp H
                      obtain ⟨⟨t105, t106⟩, A140, H⟩ := H
                      replace H : (if t106 = 0 then (if x6_1.length + t105.size < 140737488355328 then (impl_groups.l0 kj9 a1 (x6_1 ++ bytesOf t105) t101 t101 (t101.length : Int) (wrap64 (x20_1 + 1))) else (none)) else (impl_groups.j2 kj9 a1 x6_1 t101 (rdOf ByteArray.empty t101 x20_1) t101 (t101.length : Int) x20_1)) = some (r1, r2) := H
                      have A14 := Aside0.mk A140
                      clear A140
                      by_cases c15 : t106 = 0
                      · rw [if_pos c15] at H
                        have c15b0 : (t106 == 0) = true := beq_iff_eq.mpr c15
                        have c15b1 : (t106 != 0) = false := bne_eq_false_iff_eq.mpr c15
                        clear c15
                        (first | rw [c15b0] | (simp only [i64_w, i32_w]; rw [c15b0]) | skip)
                        by_cases c16 : x6_1.length + t105.size < 140737488355328
                        · rw [if_pos c16] at H
                          have LMc16 := Aside0.mk c16
                          clear c16
                          obtain ⟨y107, hy107⟩ : ∃ y_ : List Int, y_ = (x6_1 ++ bytesOf t105) := ⟨_, rfl⟩
                          replace H : (impl_groups.l0 kj9 a1 y107 t101 t101 (t101.length : Int) (wrap64 (x20_1 + 1))) = some (r1, r2) := by first | (rw [hy107]; with_reducible exact H) | (have H2_ := (Option.bind_some _ _).symm.trans H; rw [hy107]; with_reducible exact H2_) | (have H2_ := (Option.bind_some _ _).symm.trans H; with_reducible exact H2_) | with_reducible exact H | (rw [hy107]; exact H) | exact H
                          have Ny107 := Aside0.mk hy107
                          clear hy107
                          have H' := Aside0.mk H
                          clear H
                          go_wp2_with (first | ((with_reducible refine gate_callee (f := 17) rfl ?_); refine goesL_ (some 35) rfl rfl Tryd.func17 (by kernel_rfl) rfl #[.string (rdOf ByteArray.empty t101 x20_1)] rfl (by (try simp only [List.map_toArray, List.map_cons, List.map_nil]); first | done | rfl | (simp only [List.length_drop, List.length_take]; rfl)) ?_; (with_reducible refine (impl_ReadV4.calls kj9 (rdOf ByteArray.empty t101 x20_1) t105 t106 _ A14.out (HGLen.out.below (by repeat (first | (with_reducible first | exact HB.out | apply below_alloc | apply pw_below_drewN | apply below_drew1) | exact HB.out)))).mono ?_); rintro e w17 ⟨rfl, hb⟩; refine ⟨_, rfl, ?_⟩; have n0_ := Aside0.mk (Kd.R_below (by (with_reducible repeat (first | apply Kd.R_alloc | apply Kd.R_drewN | apply Kd.R_drew)); exact HO_6.out) hb); have n1_ := Aside0.mk (Kd.R_below (by (with_reducible repeat (first | apply Kd.R_alloc | apply Kd.R_drewN | apply Kd.R_drew)); exact HO_7.out) hb); have n2_ := Aside0.mk (Kd.R_below (by (with_reducible repeat (first | apply Kd.R_alloc | apply Kd.R_drewN | apply Kd.R_drew)); exact HO_18.out) hb); have n3_ := Aside0.mk (below_step (by repeat (first | (with_reducible first | exact HB.out | apply below_alloc | apply pw_below_drewN | apply below_drew1) | exact HB.out)) hb); clear HO_6; clear HO_7; clear HO_18; clear HB; have HO_6 := n0_; have HO_7 := n1_; have HO_18 := n2_; have HB := n3_; clear n0_ n1_ n2_ n3_; (try clear hb); (try clear hb2); (try clear hk); (try clear hi)) | (at_builtin; refine print_append_str (w0 := w) w.heap.size rfl (.tmp 40) _ 35 9 5 rfl Tryd.underlying35 Tryd.underlying9 info5 u6 x6_1 t105 rfl rfl ?aO ?aB ?aS ?aL ?_; (case aB => exact (by repeat (first | (with_reducible first | exact HB.out | apply below_alloc | apply pw_below_drewN | apply below_drew1) | exact HB.out))); (case aO => exact (Kd.own_of_R (by (with_reducible repeat (first | apply Kd.R_alloc | apply Kd.R_drewN | apply Kd.R_drew)); exact HO_6.out))); (case aS => exact (below_size (by repeat (first | (with_reducible first | exact HB.out | apply below_alloc | apply pw_below_drewN | apply below_drew1) | exact HB.out)))); (case aL => have := LMc16.out; omega); intro v108 w18 ho0 hb hg; have ho := Kd.R_of_own (h1 := fun _ => rfl) (ok := fun _ => True) ho0 (fun _ _ => trivial); clear ho0; have hat := True.intro; rw [← Ny107.out] at ho; change Kd.R (Kd.int .u8) 5 w18 w.heap.size (fun _ => True) v108 y107 at ho; have n0_ := Aside0.mk (Kd.R_over' (by (with_reducible repeat (first | apply Kd.R_alloc | apply Kd.R_drewN | apply Kd.R_drew)); exact HO_7.out) (Kd.R_typed (by (with_reducible repeat (first | apply Kd.R_alloc | apply Kd.R_drewN | apply Kd.R_drew)); exact HO_6.out)) (by decide) hg); have n1_ := Aside0.mk (Kd.R_over' (by (with_reducible repeat (first | apply Kd.R_alloc | apply Kd.R_drewN | apply Kd.R_drew)); exact HO_18.out) (Kd.R_typed (by (with_reducible repeat (first | apply Kd.R_alloc | apply Kd.R_drewN | apply Kd.R_drew)); exact HO_6.out)) (by decide) hg); have n2_ := Aside0.mk (hb); have n3_ := Aside0.mk (ho); clear HO_7; clear HO_18; clear HB; clear HO_6; have HO_7 := n0_; have HO_18 := n1_; have HB := n2_; have HO109 := n3_; clear n0_ n1_ n2_ n3_; clear ho hb hg hat))
                          go_roundg kj9
                          case measure => have := HK1.out; have := HJ9.out; omega
                          case rel => exact ⟨(y107), (wrap64 (x20_1 + 1)), (by first | rfl | (simp; done) | (simp [*]; done)), H', ⟨by have := HK1.out; have := HJ9.out; omega⟩, ⟨by (with_reducible repeat (first | apply Kd.R_alloc | apply Kd.R_drewN | apply Kd.R_drew)); exact HO109.out⟩, ⟨by (with_reducible repeat (first | apply Kd.R_alloc | apply Kd.R_drewN | apply Kd.R_drew)); exact HO_7.out⟩, ⟨by (with_reducible repeat (first | apply Kd.R_alloc | apply Kd.R_drewN | apply Kd.R_drew)); exact HO_18.out⟩, ⟨by repeat (first | (with_reducible first | exact HB.out | apply below_alloc | apply pw_below_drewN | apply below_drew1) | exact HB.out)⟩⟩
                        · rw [if_neg c16] at H
                          exact absurd H (by simp)
                      · rw [if_neg c15] at H
                        have c15b0 : (t106 == 0) = false := beq_eq_false_iff_ne.mpr c15
                        have c15b1 : (t106 != 0) = true := bne_iff_ne.mpr c15
                        (first | rw [c15b0] | (simp only [i64_w, i32_w]; rw [c15b0]) | skip)
                        have H' := Aside0.mk H
                        clear H
                        go_wp2_with (first | ((with_reducible refine gate_callee (f := 17) rfl ?_); refine goesL_ (some 35) rfl rfl Tryd.func17 (by kernel_rfl) rfl #[.string (rdOf ByteArray.empty t101 x20_1)] rfl (by (try simp only [List.map_toArray, List.map_cons, List.map_nil]); first | done | rfl | (simp only [List.length_drop, List.length_take]; rfl)) ?_; (with_reducible refine (impl_ReadV4.calls kj9 (rdOf ByteArray.empty t101 x20_1) t105 t106 _ A14.out (HGLen.out.below (by repeat (first | (with_reducible first | exact HB.out | apply below_alloc | apply pw_below_drewN | apply below_drew1) | exact HB.out)))).mono ?_); rintro e w19 ⟨rfl, hb⟩; refine ⟨_, rfl, ?_⟩; have n0_ := Aside0.mk (Kd.R_below (by (with_reducible repeat (first | apply Kd.R_alloc | apply Kd.R_drewN | apply Kd.R_drew)); exact HO_6.out) hb); have n1_ := Aside0.mk (Kd.R_below (by (with_reducible repeat (first | apply Kd.R_alloc | apply Kd.R_drewN | apply Kd.R_drew)); exact HO_7.out) hb); have n2_ := Aside0.mk (Kd.R_below (by (with_reducible repeat (first | apply Kd.R_alloc | apply Kd.R_drewN | apply Kd.R_drew)); exact HO_18.out) hb); have n3_ := Aside0.mk (below_step (by repeat (first | (with_reducible first | exact HB.out | apply below_alloc | apply pw_below_drewN | apply below_drew1) | exact HB.out)) hb); clear HO_6; clear HO_7; clear HO_18; clear HB; have HO_6 := n0_; have HO_7 := n1_; have HO_18 := n2_; have HB := n3_; clear n0_ n1_ n2_ n3_; (try clear hb); (try clear hb2); (try clear hk); (try clear hi)))
                        go_meet
                        case rel => exact ⟨_, (x6_1), H', ⟨by have := HK1.out; have := HJ9.out; first | omega | exact Nat.le_refl _⟩, ⟨by (with_reducible repeat (first | apply Kd.R_alloc | apply Kd.R_drewN | apply Kd.R_drew)); exact HO_6.out⟩, ⟨by (with_reducible repeat (first | apply Kd.R_alloc | apply Kd.R_drewN | apply Kd.R_drew)); exact HO_7.out⟩, ⟨by (with_reducible repeat (first | apply Kd.R_alloc | apply Kd.R_drewN | apply Kd.R_drew)); exact HO_18.out⟩, ⟨by repeat (first | (with_reducible first | exact HB.out | apply below_alloc | apply pw_below_drewN | apply below_drew1) | exact HB.out)⟩⟩
                    · replace c13 := Bool.eq_false_iff.mpr c13
                      subst c13
                      have H1 : (impl_groups.j2 kj9 a1 x6_1 t101 (rdOf ByteArray.empty t101 x20_1) t101 (t101.length : Int) x20_1) = some (r1, r2) := by rw [if_neg (show ¬ (false = true) by decide)] at H; exact H
                      clear H
                      have H := H1
                      clear H1
                      have H' := Aside0.mk H
                      clear H
                      go_wp2
                      go_meet
                      case rel => exact ⟨_, (x6_1), H', ⟨by have := HK1.out; have := HJ9.out; first | omega | exact Nat.le_refl _⟩, ⟨by (with_reducible repeat (first | apply Kd.R_alloc | apply Kd.R_drewN | apply Kd.R_drew)); exact HO_6.out⟩, ⟨by (with_reducible repeat (first | apply Kd.R_alloc | apply Kd.R_drewN | apply Kd.R_drew)); exact HO_7.out⟩, ⟨by (with_reducible repeat (first | apply Kd.R_alloc | apply Kd.R_drewN | apply Kd.R_drew)); exact HO_18.out⟩, ⟨by repeat (first | (with_reducible first | exact HB.out | apply below_alloc | apply pw_below_drewN | apply below_drew1) | exact HB.out)⟩⟩
                  case rest =>
                    clear HC12
                    try clear c1
                    try clear p1
                    try clear q1
                    try clear hx1
                    try clear p2
                    try clear c3
                    try clear c3b0
                    try clear c3b1
                    try clear p6
                    try clear c7
                    try clear c7b0
                    try clear c8
                    try clear c8b0
                    try clear c9
                    try clear c9b0
                    try clear p10
                    try clear q10
                    try clear hx10
                    try clear c11
                    try clear c13
                    try clear c15
                    try clear c15b0
                    try clear c15b1
                    try clear c16
                    try clear c17
                    try clear hx104_0
                    try clear p1
                    try clear p10
                    try clear p104
                    try clear p2
                    try clear p6
                    try clear q1
                    try clear q10
                    try clear q104
                    obtain ⟨kq, x6_11, HA, HJ11, HO_6, HO_7, HO_18, HB⟩ := hcut
                    cases kq with
                    | zero => exact absurd HA.out (by simp [impl_groups.j2])
                    | succ kj11 =>
                      have H := HA.out
                      clear HA
                      simp only [impl_groups.j2] at H
                      have HC20 := Aside0.mk H
                      clear H
                      go_upto_region 12 with (fail)
                      go_cut [50] (fun v50 wc => ∃ (kq : Nat) (x50_19 : Bool), v50 = .bool x50_19 ∧ Aside0 (impl_groups.j3 kq a1 x6_11 t101 (rdOf ByteArray.empty t101 x20_1) t101 (t101.length : Int) x20_1 x50_19 = some (r1, r2)) ∧ Aside0 (kq ≤ kj11) ∧ Aside0 (Kd.R (Kd.int .u8) 5 wc w.heap.size (fun _ => True) u6 x6_11) ∧ Aside0 (Kd.R Kd.string 9 wc w.heap.size (fun _ => True) (.slice (some ad104) t101.length co6) t101) ∧ Aside0 (Kd.R Kd.string 9 wc w.heap.size (fun _ => True) (.slice (some ad104) t101.length co6) t101) ∧ Aside0 (Below w.heap.size w wc))
                      case first =>
                        have H := HC20.out
                        clear HC20
                        by_cases c21 : ((rdOf ByteArray.empty t101 x20_1).size : Int) < 1
                        · rw [if_pos c21] at H
                          have c21b0 : decide (((rdOf ByteArray.empty t101 x20_1).size : Int) < 1) = true := decide_eq_true c21
                          have c21b1 : decide ((rdOf ByteArray.empty t101 x20_1).size < 1) = true := decide_eq_true (by omega)
                          clear c21
                          (first | rw [c21b0] | (simp only [i64_w, i32_w]; rw [c21b0]) | skip)
                          have H' := Aside0.mk H
                          clear H
                          go_wp2
                          go_meet
                          case rel => exact ⟨_, (true), (by first | rfl | (simp; done) | (simp [*]; done)), H', ⟨by have := HK1.out; have := HJ9.out; have := HJ11.out; first | omega | exact Nat.le_refl _⟩, ⟨by (with_reducible repeat (first | apply Kd.R_alloc | apply Kd.R_drewN | apply Kd.R_drew)); exact HO_6.out⟩, ⟨by (with_reducible repeat (first | apply Kd.R_alloc | apply Kd.R_drewN | apply Kd.R_drew)); exact HO_7.out⟩, ⟨by (with_reducible repeat (first | apply Kd.R_alloc | apply Kd.R_drewN | apply Kd.R_drew)); exact HO_18.out⟩, ⟨by repeat (first | (with_reducible first | exact HB.out | apply below_alloc | apply pw_below_drewN | apply below_drew1) | exact HB.out)⟩⟩
                        · rw [if_neg c21] at H
                          have c21b0 : decide (((rdOf ByteArray.empty t101 x20_1).size : Int) < 1) = false := decide_eq_false c21
                          have c21b1 : decide ((rdOf ByteArray.empty t101 x20_1).size < 1) = false := decide_eq_false (by omega)
                          clear c21
                          (first | rw [c21b0] | (simp only [i64_w, i32_w]; rw [c21b0]) | skip)
                          have H' := Aside0.mk H
                          clear H
                          go_wp2
                          go_meet
                          case rel => exact ⟨_, (decide (((rdOf ByteArray.empty t101 x20_1).size : Int) > 4)), (by first | rfl | (simp; done) | (simp [*]; done)), H', ⟨by have := HK1.out; have := HJ9.out; have := HJ11.out; first | omega | exact Nat.le_refl _⟩, ⟨by (with_reducible repeat (first | apply Kd.R_alloc | apply Kd.R_drewN | apply Kd.R_drew)); exact HO_6.out⟩, ⟨by (with_reducible repeat (first | apply Kd.R_alloc | apply Kd.R_drewN | apply Kd.R_drew)); exact HO_7.out⟩, ⟨by (with_reducible repeat (first | apply Kd.R_alloc | apply Kd.R_drewN | apply Kd.R_drew)); exact HO_18.out⟩, ⟨by repeat (first | (with_reducible first | exact HB.out | apply below_alloc | apply pw_below_drewN | apply below_drew1) | exact HB.out)⟩⟩
                      case rest =>
                        clear HC20
                        try clear c1
                        try clear p1
                        try clear q1
                        try clear hx1
                        try clear c2
                        try clear p2
                        try clear c3
                        try clear c3b0
                        try clear c3b1
                        try clear p6
                        try clear c7
                        try clear c7b0
                        try clear c8
                        try clear c8b0
                        try clear c9
                        try clear c9b0
                        try clear p10
                        try clear q10
                        try clear hx10
                        try clear c11
                        try clear c13
                        try clear c15
                        try clear c15b0
                        try clear c15b1
                        try clear c16
                        try clear c17
                        try clear c21
                        try clear c21b0
                        try clear c21b1
                        try clear hx104_0
                        try clear p1
                        try clear p10
                        try clear p104
                        try clear p2
                        try clear p6
                        try clear q1
                        try clear q10
                        try clear q104
                        obtain ⟨kq, x50_19, rfl, HA, HJ19, HO_6, HO_7, HO_18, HB⟩ := hcut
                        cases kq with
                        | zero => exact absurd HA.out (by simp [impl_groups.j3])
                        | succ kj19 =>
                          have H := HA.out
                          clear HA
                          simp only [impl_groups.j3] at H
                          by_cases c22 : x50_19 = true
                          · subst c22
                            have H1 : (some ((⟨#[]⟩ : ByteArray), false)) = some (r1, r2) := by rw [if_pos rfl] at H; exact H
                            clear H
                            have H := H1
                            clear H1
                            simp only [Option.some.injEq, Prod.mk.injEq] at H
                            obtain ⟨rfl, rfl⟩ := H
                            go_wp2
                            go_ret2
                            exact ⟨by first | rfl | (simp [errW_none, errW_some] <;> rfl) | (simp [*, errW_none, errW_some] <;> rfl), by repeat (first | (with_reducible first | exact HB.out | apply below_alloc | apply pw_below_drewN | apply below_drew1) | exact HB.out)⟩
                          · replace c22 := Bool.eq_false_iff.mpr c22
                            subst c22
                            have H1 : ((xhex.f (rdOf ByteArray.empty t101 x20_1)).bind fun bt110 => (if bt110.2 = true then (some ((⟨#[]⟩ : ByteArray), false)) else ((some (([(bt110.1 / 256) % 256, (bt110.1) % 256] : List Int) : List Int)).bind fun y112 => (if x6_11.length + y112.length < 140737488355328 then (impl_groups.l0 kj19 a1 (x6_11 ++ y112) t101 t101 (t101.length : Int) (wrap64 (x20_1 + 1))) else (none))))) = some (r1, r2) := by rw [if_neg (show ¬ (false = true) by decide)] at H; exact H
                            clear H
                            have H := H1
                            clear H1
                            replace H := Option.bind_eq_some_iff.mp H
                            obtain ⟨⟨t110, t111⟩, A230, H⟩ := H
                            replace H : (if t111 = true then (some ((⟨#[]⟩ : ByteArray), false)) else ((some (([(t110 / 256) % 256, (t110) % 256] : List Int) : List Int)).bind fun y112 => (if x6_11.length + y112.length < 140737488355328 then (impl_groups.l0 kj19 a1 (x6_11 ++ y112) t101 t101 (t101.length : Int) (wrap64 (x20_1 + 1))) else (none)))) = some (r1, r2) := H
                            have A23 := Aside0.mk A230
                            clear A230
                            by_cases c24 : t111 = true
                            · subst c24
                              have H1 : (some ((⟨#[]⟩ : ByteArray), false)) = some (r1, r2) := by rw [if_pos rfl] at H; exact H
                              clear H
                              have H := H1
                              clear H1
                              simp only [Option.some.injEq, Prod.mk.injEq] at H
                              obtain ⟨rfl, rfl⟩ := H
                              go_wp2_with (first | ((with_reducible refine gate_callee (f := 18) rfl ?_); refine goesL_ (some 53) rfl rfl Tryd.func18 (by kernel_rfl) rfl #[.string (rdOf ByteArray.empty t101 x20_1), .int .i64 16, .int .i64 16] rfl (by (try simp only [List.map_toArray, List.map_cons, List.map_nil]); first | done | rfl | (simp only [List.length_drop, List.length_take]; rfl)) ?_; (with_reducible refine (xhexT.calls (rdOf ByteArray.empty t101 x20_1) t110 _ (GlobE.below HGE.out (by repeat (first | (with_reducible first | exact HB.out | apply below_alloc | apply pw_below_drewN | apply below_drew1) | exact HB.out))) A23.out).mono ?_); rintro e w25 ⟨N_, rfl, hb⟩; refine ⟨_, rfl, ?_⟩; have n0_ := Aside0.mk (Kd.R_below (by (with_reducible repeat (first | apply Kd.R_alloc | apply Kd.R_drewN | apply Kd.R_drew)); exact HO_6.out) hb); have n1_ := Aside0.mk (Kd.R_below (by (with_reducible repeat (first | apply Kd.R_alloc | apply Kd.R_drewN | apply Kd.R_drew)); exact HO_7.out) hb); have n2_ := Aside0.mk (Kd.R_below (by (with_reducible repeat (first | apply Kd.R_alloc | apply Kd.R_drewN | apply Kd.R_drew)); exact HO_18.out) hb); have n3_ := Aside0.mk (below_step (by repeat (first | (with_reducible first | exact HB.out | apply below_alloc | apply pw_below_drewN | apply below_drew1) | exact HB.out)) hb); clear HO_6; clear HO_7; clear HO_18; clear HB; have HO_6 := n0_; have HO_7 := n1_; have HO_18 := n2_; have HB := n3_; clear n0_ n1_ n2_ n3_; (try clear hb); (try clear hb2); (try clear hk); (try clear hi)))
                              go_ret2
                              exact ⟨by first | rfl | (simp [errW_none, errW_some] <;> rfl) | (simp [*, errW_none, errW_some] <;> rfl), by repeat (first | (with_reducible first | exact HB.out | apply below_alloc | apply pw_below_drewN | apply below_drew1) | exact HB.out)⟩
                            · replace c24 := Bool.eq_false_iff.mpr c24
                              subst c24
                              have H1 : ((some (([(t110 / 256) % 256, (t110) % 256] : List Int) : List Int)).bind fun y112 => (if x6_11.length + y112.length < 140737488355328 then (impl_groups.l0 kj19 a1 (x6_11 ++ y112) t101 t101 (t101.length : Int) (wrap64 (x20_1 + 1))) else (none))) = some (r1, r2) := by rw [if_neg (show ¬ (false = true) by decide)] at H; exact H
                              clear H
                              have H := H1
                              clear H1
                              obtain ⟨y112, hy112⟩ : ∃ y_ : List Int, y_ = (([(t110 / 256) % 256, (t110) % 256] : List Int)) := ⟨_, rfl⟩
                              replace H : (if x6_11.length + y112.length < 140737488355328 then (impl_groups.l0 kj19 a1 (x6_11 ++ y112) t101 t101 (t101.length : Int) (wrap64 (x20_1 + 1))) else (none)) = some (r1, r2) := by first | (rw [hy112]; with_reducible exact H) | (have H2_ := (Option.bind_some _ _).symm.trans H; rw [hy112]; with_reducible exact H2_) | (have H2_ := (Option.bind_some _ _).symm.trans H; with_reducible exact H2_) | with_reducible exact H | (rw [hy112]; exact H) | exact H
                              have Ny112 := Aside0.mk hy112
                              clear hy112
                              by_cases c26 : x6_11.length + y112.length < 140737488355328
                              · rw [if_pos c26] at H
                                have LMc26 := Aside0.mk c26
                                clear c26
                                obtain ⟨y115, hy115⟩ : ∃ y_ : List Int, y_ = (x6_11 ++ y112) := ⟨_, rfl⟩
                                replace H : (impl_groups.l0 kj19 a1 y115 t101 t101 (t101.length : Int) (wrap64 (x20_1 + 1))) = some (r1, r2) := by first | (rw [hy115]; with_reducible exact H) | (have H2_ := (Option.bind_some _ _).symm.trans H; rw [hy115]; with_reducible exact H2_) | (have H2_ := (Option.bind_some _ _).symm.trans H; with_reducible exact H2_) | with_reducible exact H | (rw [hy115]; exact H) | exact H
                                have Ny115 := Aside0.mk hy115
                                clear hy115
                                have H' := Aside0.mk H
                                clear H
                                go_wp2_with (first | ((with_reducible refine gate_callee (f := 18) rfl ?_); refine goesL_ (some 53) rfl rfl Tryd.func18 (by kernel_rfl) rfl #[.string (rdOf ByteArray.empty t101 x20_1), .int .i64 16, .int .i64 16] rfl (by (try simp only [List.map_toArray, List.map_cons, List.map_nil]); first | done | rfl | (simp only [List.length_drop, List.length_take]; rfl)) ?_; (with_reducible refine (xhexF.calls (rdOf ByteArray.empty t101 x20_1) t110 _ (GlobE.below HGE.out (by repeat (first | (with_reducible first | exact HB.out | apply below_alloc | apply pw_below_drewN | apply below_drew1) | exact HB.out))) A23.out).mono ?_); rintro e w27 ⟨rfl, hb⟩; refine ⟨_, rfl, ?_⟩; have n0_ := Aside0.mk (Kd.R_below (by (with_reducible repeat (first | apply Kd.R_alloc | apply Kd.R_drewN | apply Kd.R_drew)); exact HO_6.out) hb); have n1_ := Aside0.mk (Kd.R_below (by (with_reducible repeat (first | apply Kd.R_alloc | apply Kd.R_drewN | apply Kd.R_drew)); exact HO_7.out) hb); have n2_ := Aside0.mk (Kd.R_below (by (with_reducible repeat (first | apply Kd.R_alloc | apply Kd.R_drewN | apply Kd.R_drew)); exact HO_18.out) hb); have n3_ := Aside0.mk (below_step (by repeat (first | (with_reducible first | exact HB.out | apply below_alloc | apply pw_below_drewN | apply below_drew1) | exact HB.out)) hb); clear HO_6; clear HO_7; clear HO_18; clear HB; have HO_6 := n0_; have HO_7 := n1_; have HO_18 := n2_; have HB := n3_; clear n0_ n1_ n2_ n3_; (try clear hb); (try clear hb2); (try clear hk); (try clear hi)) | ((with_reducible refine gate_dst (N := 64) rfl ?_); (try (refine gate_guard (by rfl) ?_; dsimp only)); refine Kd.R_lit (Kd.int .u8) _ 5 ?hg (N := 64) ?hd (xs := ([(t110 / 256) % 256, (t110) % 256] : List Int)) (inner := [.int .u8 ((t110 / 256) % 256), .int .u8 ((t110) % 256)]) (ok := fun _ => True) (okp := fun _ => True) ?hr ?hp (fun _ hk => hk) trivial (Below.refl _ _) (Nat.le_refl _) (by simp) ?_; (case hd => rfl); (case hg => rfl); (case hr => first | (go_simp; done) | (go_simp; rfl)); (case hp => exact (Reps.one (show Kd.M (Kd.int .u8) _ _ _ ((t110 / 256) % 256) [.int .u8 ((t110 / 256) % 256)] from rfl) (Reps.one (show Kd.M (Kd.int .u8) _ _ _ ((t110) % 256) [.int .u8 ((t110) % 256)] from rfl) (Reps.none _ _)))); intro v113 w28 ho29 hb hg_ hnew_; clear hg_ hnew_; (first | rw [← Ny112.out] at ho29 | (simp only [Int.reduceToNat] at ho29; rw [← Ny112.out] at ho29)); have n0_ := Aside0.mk (Kd.R_elder' (by (with_reducible repeat (first | apply Kd.R_alloc | apply Kd.R_drewN | apply Kd.R_drew)); exact HO_6.out) (Kd.R_base ho29) hb); have n1_ := Aside0.mk (Kd.R_below (by (with_reducible repeat (first | apply Kd.R_alloc | apply Kd.R_drewN | apply Kd.R_drew)); exact HO_7.out) hb); have n2_ := Aside0.mk (Kd.R_below (by (with_reducible repeat (first | apply Kd.R_alloc | apply Kd.R_drewN | apply Kd.R_drew)); exact HO_18.out) hb); have n3_ := Aside0.mk (Kd.R_lower (Kd.R_new' ho29 (Kd.R_lt (by (with_reducible repeat (first | apply Kd.R_alloc | apply Kd.R_drewN | apply Kd.R_drew)); exact HO_6.out))) (below_size (by repeat (first | (with_reducible first | exact HB.out | apply below_alloc | apply pw_below_drewN | apply below_drew1) | exact HB.out)))); have n4_ := Aside0.mk (below_step (by repeat (first | (with_reducible first | exact HB.out | apply below_alloc | apply pw_below_drewN | apply below_drew1) | exact HB.out)) hb); clear HO_6; clear HO_7; clear HO_18; clear HB; have HO_6 := n0_; have HO_7 := n1_; have HO_18 := n2_; have HO114 := n3_; have HB := n4_; clear n0_ n1_ n2_ n3_ n4_; clear hb ho29; obtain ⟨Ao31, co31, eo31⟩ := Kd.R_slice HO114.out; subst eo31) | ((with_reducible refine gate_builtin (b := .append) (xs := #[.tmp 58, .tmp 64]) rfl ?_); (try (refine gate_guard (by rfl) ?_; dsimp only)); at_builtin; refine Kd.R_append_rows (Kd.int .u8) (w0 := w) w.heap.size rfl (.tmp 58) (.tmp 64) 35 5 (.int .u8 0) 1 rfl Tryd.underlying35 info5 rfl (by decide) (by omega) u6 x6_11 y112 _ _ _ (fun k_ => some k_ ≠ (.slice Ao31 y112.length co31 : Value).ownBlock) (fun _ => False) rfl rfl ?aO ?aR (fun _ _ h => h) (fun _ h => h.elim) ?aF ?aB ?aS ?aL ?_; (case aR => repeat (first | exact (Kd.R_reads' HO114.out).2.2 | (with_reducible refine Kd.C_alloc ?_ _) | (with_reducible refine Kd.C_drewN ?_ _) | (with_reducible refine Kd.C_drew ?_))); (case aB => exact (by repeat (first | (with_reducible first | exact HB.out | apply below_alloc | apply pw_below_drewN | apply below_drew1) | exact HB.out))); (case aF => exact (fun k_ hk => Kd.fresh' (Kd.R_lt (by (with_reducible repeat (first | apply Kd.R_alloc | apply Kd.R_drewN | apply Kd.R_drew)); exact HO114.out)) k_ hk)); (case aO => exact (by (with_reducible repeat (first | apply Kd.R_alloc | apply Kd.R_drewN | apply Kd.R_drew)); exact Kd.R_mono HO_6.out (fun _ hk => hk.2))); (case aS => exact (below_size (by repeat (first | (with_reducible first | exact HB.out | apply below_alloc | apply pw_below_drewN | apply below_drew1) | exact HB.out)))); (case aL => have := LMc26.out; omega); intro v116 w30 ho hb hg hat; rw [← Ny115.out] at ho; have n0_ := Aside0.mk (Kd.R_over' (by (with_reducible repeat (first | apply Kd.R_alloc | apply Kd.R_drewN | apply Kd.R_drew)); exact HO_7.out) (Kd.R_typed (by (with_reducible repeat (first | apply Kd.R_alloc | apply Kd.R_drewN | apply Kd.R_drew)); exact HO_6.out)) (by decide) hg); have n1_ := Aside0.mk (Kd.R_over' (by (with_reducible repeat (first | apply Kd.R_alloc | apply Kd.R_drewN | apply Kd.R_drew)); exact HO_18.out) (Kd.R_typed (by (with_reducible repeat (first | apply Kd.R_alloc | apply Kd.R_drewN | apply Kd.R_drew)); exact HO_6.out)) (by decide) hg); have n2_ := Aside0.mk (Kd.R_after (ok := (fun _ => True)) (by (with_reducible repeat (first | apply Kd.R_alloc | apply Kd.R_drewN | apply Kd.R_drew)); exact HO114.out) hg hat); have n3_ := Aside0.mk (hb); have n4_ := Aside0.mk (ho); clear HO_7; clear HO_18; clear HO114; clear HB; clear HO_6; have HO_7 := n0_; have HO_18 := n1_; have HO114 := n2_; have HB := n3_; have HO117 := n4_; clear n0_ n1_ n2_ n3_ n4_; clear ho hb hg hat))
                                go_roundg kj19
                                case measure => have := HK1.out; have := HJ9.out; have := HJ11.out; have := HJ19.out; omega
                                case rel => exact ⟨(y115), (wrap64 (x20_1 + 1)), (by first | rfl | (simp; done) | (simp [*]; done)), H', ⟨by have := HK1.out; have := HJ9.out; have := HJ11.out; have := HJ19.out; omega⟩, ⟨by (with_reducible repeat (first | apply Kd.R_alloc | apply Kd.R_drewN | apply Kd.R_drew)); exact Kd.R_mono HO117.out (fun _ hk => trivial)⟩, ⟨by (with_reducible repeat (first | apply Kd.R_alloc | apply Kd.R_drewN | apply Kd.R_drew)); exact HO_7.out⟩, ⟨by (with_reducible repeat (first | apply Kd.R_alloc | apply Kd.R_drewN | apply Kd.R_drew)); exact HO_18.out⟩, ⟨by repeat (first | (with_reducible first | exact HB.out | apply below_alloc | apply pw_below_drewN | apply below_drew1) | exact HB.out)⟩⟩
                              · rw [if_neg c26] at H
                                exact absurd H (by simp)
            · rw [if_neg c9] at H
              exact absurd H (by simp)
          · rw [if_neg c8] at H
            exact absurd H (by simp)
        · rw [if_neg c7] at H
          have c7b0 : decide (x20_1 < (t101.length : Int)) = false := decide_eq_false c7
          clear c7
          simp only [Option.some.injEq, Prod.mk.injEq] at H
          obtain ⟨rfl, rfl⟩ := H
          have hcv32 := own_string (P := Tryd.prog) Tryd.underlying35 Tryd.underlying5 Tryd.underlying9 (Kd.own_of_R HO_6.out)
          go_wp2
          go_ret2
          exact ⟨by first | rfl | (simp [errW_none, errW_some] <;> rfl) | (simp [*, errW_none, errW_some] <;> rfl), by repeat (first | (with_reducible first | exact HB.out | apply below_alloc | apply pw_below_drewN | apply below_drew1) | exact HB.out)⟩

end Go.Proofs.YtlekdblkfidciaaDoor.F
namespace Go.Proofs.YtlekdblkfidciaaDoor.F
open Go Go.Shelf Go.RowKit Go.Proofs.YtlekdblkfidciaaDoorW.PrintWords Go.Proofs.YtlekdblkfidciaaDoorW.PrintLast Go.Proofs.YtlekdblkfidciaaDoorW.PrintMore
attribute [local go_sem] max2_int min2_int max_two min_two max_three min_three max_four min_four   -- for this text's walks alone
set_option linter.unusedVariables false
set_option linter.unusedSimpArgs false

/-! ### strings_HasPrefix: function 9 -/
def pre_ren : Go.Shelf.Ren := ⟨fun | 99 => 9 | 206 => 19 | n => n, fun | 3 => 3 | 4 => 4 | 9 => 9 | n => n, fun n => n⟩
theorem pre_lays : Go.Proofs.Lays.n99 Tryd.prog pre_ren := {
  mixed := by kernel_rfl
  f99 := Tryd.func9.trans (congrArg some (by kernel_rfl))
  f206 := Tryd.func19.trans (congrArg some (by kernel_rfl))
  t3 := Tryd.underlying3
  a3 := Tryd.isAgg3
  z3 := Tryd.sizeOf3
  v3 := Tryd.zeroValue3
  t4 := Tryd.underlying4
  a4 := Tryd.isAgg4
  z4 := Tryd.sizeOf4
  v4 := Tryd.zeroValue4
  t9 := Tryd.underlying9
  a9 := Tryd.isAgg9
  z9 := Tryd.sizeOf9
  v9 := Tryd.zeroValue9 }
def strings_HasPrefix.f (a0 : ByteArray) (a1 : ByteArray) : Option (Bool) := some (Lib.hasPrefix a0.data.toList a1.data.toList)
theorem strings_HasPrefix.calls (a0 : ByteArray) (a1 : ByteArray) (r : Bool) (w : World) (h : strings_HasPrefix.f a0 a1 = some r) :
    Calls Tryd.prog 9 #[.string a0, .string a1] w fun e w' => e = .returned (.bool r) ∧ Drawn0 w w' := by
  obtain rfl := Option.some.inj h
  exact (Any.strings_HasPrefix pre_lays a0 a1 w).mono fun e w' ⟨he, hw⟩ => ⟨he, 0, by rw [hw]; rfl⟩

end Go.Proofs.YtlekdblkfidciaaDoor.F
namespace Go.Proofs.YtlekdblkfidciaaDoor.F
open Go Go.Shelf Go.RowKit Go.Proofs.YtlekdblkfidciaaDoorW.PrintWords Go.Proofs.YtlekdblkfidciaaDoorW.PrintLast Go.Proofs.YtlekdblkfidciaaDoorW.PrintMore
attribute [local go_sem] max2_int min2_int max_two min_two max_three min_three max_four min_four   -- for this text's walks alone
set_option linter.unusedVariables false
set_option linter.unusedSimpArgs false

/-! ### strings_Repeat: function 10 -/
def rep_ren : Go.Shelf.Ren := ⟨fun | 99 => 9 | 105 => 10 | 165 => 21 | 166 => 22 | 169 => 24 | 170 => 23 | 206 => 19 | 212 => 20 | 240 => 35 | 241 => 36 | 263 => 33 | 264 => 34 | 276 => 50 | 277 => 51 | n => n, fun | 0 => 0 | 3 => 3 | 4 => 4 | 5 => 5 | 9 => 9 | 20 => 20 | 37 => 35 | 46 => 42 | 51 => 61 | 53 => 37 | 70 => 45 | 72 => 47 | 75 => 39 | 80 => 52 | 76 => 49 | 109 => 43 | 127 => 66 | 146 => 62 | 148 => 64 | 164 => 75 | n => n, fun n => n⟩
theorem rep_lays : Go.Proofs.Lays.n105 Tryd.prog rep_ren := {
  mixed := by kernel_rfl
  f99 := Tryd.func9.trans (congrArg some (by kernel_rfl))
  f105 := Tryd.func10.trans (congrArg some (by kernel_rfl))
  f165 := Tryd.func21.trans (congrArg some (by kernel_rfl))
  f166 := Tryd.func22.trans (congrArg some (by kernel_rfl))
  f169 := Tryd.func24.trans (congrArg some (by kernel_rfl))
  f170 := Tryd.func23.trans (congrArg some (by kernel_rfl))
  f206 := Tryd.func19.trans (congrArg some (by kernel_rfl))
  f212 := Tryd.func20.trans (congrArg some (by kernel_rfl))
  f240 := Tryd.func35.trans (congrArg some (by kernel_rfl))
  f241 := Tryd.func36.trans (congrArg some (by kernel_rfl))
  f263 := Tryd.func33.trans (congrArg some (by kernel_rfl))
  f264 := Tryd.func34.trans (congrArg some (by kernel_rfl))
  f276 := Tryd.func50.trans (congrArg some (by kernel_rfl))
  f277 := Tryd.func51.trans (congrArg some (by kernel_rfl))
  t0 := Tryd.underlying0
  a0 := Tryd.isAgg0
  z0 := Tryd.sizeOf0
  v0 := Tryd.zeroValue0
  t3 := Tryd.underlying3
  a3 := Tryd.isAgg3
  z3 := Tryd.sizeOf3
  v3 := Tryd.zeroValue3
  t4 := Tryd.underlying4
  a4 := Tryd.isAgg4
  z4 := Tryd.sizeOf4
  v4 := Tryd.zeroValue4
  t5 := Tryd.underlying5
  a5 := Tryd.isAgg5
  z5 := Tryd.sizeOf5
  v5 := Tryd.zeroValue5
  t9 := Tryd.underlying9
  a9 := Tryd.isAgg9
  z9 := Tryd.sizeOf9
  v9 := Tryd.zeroValue9
  t20 := Tryd.underlying20
  a20 := Tryd.isAgg20
  z20 := Tryd.sizeOf20
  v20 := Tryd.zeroValue20
  t37 := Tryd.underlying35
  a37 := Tryd.isAgg35
  z37 := Tryd.sizeOf35
  v37 := Tryd.zeroValue35
  t46 := Tryd.underlying42
  a46 := Tryd.isAgg42
  z46 := Tryd.sizeOf42
  v46 := Tryd.zeroValue42
  t51 := Tryd.underlying61
  a51 := Tryd.isAgg61
  z51 := Tryd.sizeOf61
  v51 := Tryd.zeroValue61
  t53 := Tryd.underlying37
  a53 := Tryd.isAgg37
  z53 := Tryd.sizeOf37
  v53 := Tryd.zeroValue37
  t70 := Tryd.underlying45
  a70 := Tryd.isAgg45
  z70 := Tryd.sizeOf45
  v70 := Tryd.zeroValue45
  t72 := Tryd.underlying47
  a72 := Tryd.isAgg47
  z72 := Tryd.sizeOf47
  v72 := Tryd.zeroValue47
  t75 := Tryd.underlying39
  a75 := Tryd.isAgg39
  z75 := Tryd.sizeOf39
  v75 := Tryd.zeroValue39
  t76 := Tryd.underlying49
  a76 := Tryd.isAgg49
  z76 := Tryd.sizeOf49
  v76 := Tryd.zeroValue49
  t109 := Tryd.underlying43
  a109 := Tryd.isAgg43
  z109 := Tryd.sizeOf43
  v109 := Tryd.zeroValue43
  t127 := Tryd.underlying66
  a127 := Tryd.isAgg66
  z127 := Tryd.sizeOf66
  v127 := Tryd.zeroValue66
  t146 := Tryd.underlying62
  a146 := Tryd.isAgg62
  z146 := Tryd.sizeOf62
  v146 := Tryd.zeroValue62
  t148 := Tryd.underlying64
  a148 := Tryd.isAgg64
  z148 := Tryd.sizeOf64
  v148 := Tryd.zeroValue64
  t164 := Tryd.underlying75
  a164 := Tryd.isAgg75
  z164 := Tryd.sizeOf75
  v164 := Tryd.zeroValue75 }
theorem rep_extra : Builder.Extra Tryd.prog rep_ren := {
  sizeBuilder := by kernel_rfl
  liesBuilder := by kernel_rfl
  t5 := Tryd.underlying5
  a5 := Tryd.isAgg5
  z5 := Tryd.sizeOf5
  v5 := Tryd.zeroValue5
  infoByte := by kernel_rfl
  cellsByte := by kernel_rfl
  sizeByte := by kernel_rfl
  neB5 := by decide }
def strings_Repeat.f (a0 : ByteArray) (a1 : Int) : Option (ByteArray) := if 0 ≤ a1 ∧ a1 ≤ 1048576 ∧ a0.size ≤ 1048576 then some ⟨(Lib.repeatL a0.data.toList a1.toNat).toArray⟩ else none
theorem strings_Repeat.calls (a0 : ByteArray) (a1 : Int) (r : ByteArray) (w : World) (h : strings_Repeat.f a0 a1 = some r) :
    Calls Tryd.prog 10 #[.string a0, .int .i64 a1] w fun e w' => e = .returned (.string r) ∧ Below w.heap.size w w' := by
  unfold strings_Repeat.f at h
  split at h
  case isFalse => cases h
  case isTrue hs =>
  cases h
  obtain ⟨h0, h1, h2⟩ := hs
  obtain ⟨c, rfl⟩ := Int.eq_ofNat_of_zero_le h0
  have hm : a0.size * c ≤ 1048576 * 1048576 := Nat.mul_le_mul h2 (by omega)
  exact Any.strings_Repeat rep_lays rep_extra a0 c w (by omega) (Nat.le_trans hm (by decide))

end Go.Proofs.YtlekdblkfidciaaDoor.F
namespace Go.Proofs.YtlekdblkfidciaaDoor.F
open Go Go.Shelf Go.RowKit Go.Proofs.YtlekdblkfidciaaDoorW.PrintWords Go.Proofs.YtlekdblkfidciaaDoorW.PrintLast Go.Proofs.YtlekdblkfidciaaDoorW.PrintMore
attribute [local go_sem] max2_int min2_int max_two min_two max_three min_three max_four min_four   -- for this text's walks alone
set_option linter.unusedVariables false
set_option linter.unusedSimpArgs false

/-! ### impl_ReadV6: function 5 -/
def impl_ReadV6.j0 : Nat → ByteArray → Bool → Option (ByteArray × Int)
  | 0, _, _ => none
  | k + 1, x0, x19 => if x19 = true then (some ((⟨#[]⟩ : ByteArray), 7)) else ((strings_Cut.f x0 (⟨#[58, 58]⟩ : ByteArray)).bind fun bt101 => (if bt101.2.2 = true then ((impl_groups.f k bt101.1 false).bind fun bt106 => ((impl_groups.f k bt101.2.1 true).bind fun bt108 => (if bt106.2 = true then (if bt108.2 = true then (if (wrap64 ((bt106.1.size : Int) + (bt108.1.size : Int))) > 14 then (some ((⟨#[]⟩ : ByteArray), 7)) else ((strings_HasPrefix.f bt101.2.1 (⟨#[58]⟩ : ByteArray)).bind fun t110 => (if t110 = true then (some ((⟨#[]⟩ : ByteArray), 7)) else ((strings_Repeat.f (⟨#[0]⟩ : ByteArray) (wrap64 ((wrap64 (16 - (bt106.1.size : Int))) - (bt108.1.size : Int)))).bind fun t111 => (if bt106.1.size + t111.size ≤ 9223372036854775807 then (if (bt106.1 ++ t111).size + bt108.1.size ≤ 9223372036854775807 then (some ((bt106.1 ++ t111) ++ bt108.1, 0)) else (none)) else (none)))))) else (some ((⟨#[]⟩ : ByteArray), 7))) else (some ((⟨#[]⟩ : ByteArray), 7))))) else ((impl_groups.f k x0 true).bind fun bt104 => (if bt104.2 = true then (if (bt104.1.size : Int) = 16 then (some (bt104.1, 0)) else (some ((⟨#[]⟩ : ByteArray), 7))) else (some ((⟨#[]⟩ : ByteArray), 7))))))
def impl_ReadV6.f (k : Nat) (a0 : ByteArray) : Option (ByteArray × Int) := if (a0.size : Int) > 100 then (impl_ReadV6.j0 k a0 true) else (impl_ReadV6.j0 k a0 (a0.toList == ([] : List UInt8)))
theorem impl_ReadV6.mono_l : ∀ k, (∀ y0 y1, LeO (impl_ReadV6.j0 k y0 y1) (impl_ReadV6.j0 (k + 1) y0 y1))
  | 0 => fun _ _ r h => by simp [impl_ReadV6.j0] at h
  | k + 1 => by
    have ih0 := impl_ReadV6.mono_l k
    · intro y0 y1
      unfold impl_ReadV6.j0
      repeat' first
      | (with_reducible exact ih0 _ _)
      | (with_reducible exact impl_groups.mono _ _ _)
      | (with_reducible exact LeO.refl _)
      | (with_reducible exact LeO.none _)
      | (with_reducible refine LeO.ite ?_ ?_)
      | (with_reducible refine LeO.bind ?_ (fun _ => ?_))
      | exact ih0 _ _
      | exact impl_groups.mono _ _ _
      | exact LeO.none _
      | refine LeO.ite ?_ ?_
      | refine LeO.bind ?_ (fun _ => ?_)
theorem impl_ReadV6.mono : ∀ a0 k, LeO (impl_ReadV6.f k a0) (impl_ReadV6.f (k + 1) a0) := by
  intro a0 k
  have ih0 := impl_ReadV6.mono_l k
  unfold impl_ReadV6.f
  repeat' first
      | (with_reducible exact ih0 _ _)
      | (with_reducible exact impl_groups.mono _ _ _)
      | (with_reducible exact LeO.refl _)
      | (with_reducible exact LeO.none _)
      | (with_reducible refine LeO.ite ?_ ?_)
      | (with_reducible refine LeO.bind ?_ (fun _ => ?_))
      | exact ih0 _ _
      | exact impl_groups.mono _ _ _
      | exact LeO.none _
      | refine LeO.ite ?_ ?_
      | refine LeO.bind ?_ (fun _ => ?_)
set_option maxHeartbeats 8000000 in
set_option maxRecDepth 100000 in
theorem impl_ReadV6.calls (k : Nat) (a0 : ByteArray) (r1 : ByteArray) (r2 : Int) (w : World) (h : impl_ReadV6.f k a0 = some (r1, r2)) (hGLen : GlobLen w) (hGE : GlobE w) :
    Calls Tryd.prog 5 #[.string a0] w fun e w' => e = .returned (.tuple #[.string r1, .int .i64 r2]) ∧ Below w.heap.size w w' := by
  have HGLen := Aside0.mk hGLen
  clear hGLen
  have HGE := Aside0.mk hGE
  clear hGE
  have HB := Aside0.mk (Below.refl w.heap.size w)
  have H : (if (a0.size : Int) > 100 then (impl_ReadV6.j0 k a0 true) else (impl_ReadV6.j0 k a0 (a0.toList == ([] : List UInt8)))) = some (r1, r2) := h
  clear h
  have HC2 := Aside0.mk H
  clear H
  go_enter Tryd.func5, Tryd.ntmps5
  go_upto_region 1 with (fail)
  go_cut [19] (fun v19 wc => ∃ (kq : Nat) (x19_1 : Bool), v19 = .bool x19_1 ∧ Aside0 (impl_ReadV6.j0 kq a0 x19_1 = some (r1, r2)) ∧ Aside0 (kq ≤ k) ∧ Aside0 (Below w.heap.size w wc))
  case first =>
    have H := HC2.out
    clear HC2
    by_cases c3 : (a0.size : Int) > 100
    · rw [if_pos c3] at H
      have c3b0 : decide (100 < (a0.size : Int)) = true := decide_eq_true c3
      have c3b1 : decide (100 < a0.size) = true := decide_eq_true (by omega)
      clear c3
      (first | rw [c3b0] | (simp only [i64_w, i32_w]; rw [c3b0]) | skip)
      have H' := Aside0.mk H
      clear H
      go_wp2
      go_meet
      case rel => exact ⟨_, (true), (by first | rfl | (simp; done) | (simp [*]; done)), H', ⟨by first | omega | exact Nat.le_refl _⟩, ⟨by repeat (first | (with_reducible first | exact HB.out | apply below_alloc | apply pw_below_drewN | apply below_drew1) | exact HB.out)⟩⟩
    · rw [if_neg c3] at H
      have c3b0 : decide (100 < (a0.size : Int)) = false := decide_eq_false c3
      have c3b1 : decide (100 < a0.size) = false := decide_eq_false (by omega)
      clear c3
      (first | rw [c3b0] | (simp only [i64_w, i32_w]; rw [c3b0]) | skip)
      have H' := Aside0.mk H
      clear H
      go_wp2
      go_meet
      case rel => exact ⟨_, ((a0.toList == ([] : List UInt8))), (by first | rfl | (simp; done) | (simp [*]; done)), H', ⟨by first | omega | exact Nat.le_refl _⟩, ⟨by repeat (first | (with_reducible first | exact HB.out | apply below_alloc | apply pw_below_drewN | apply below_drew1) | exact HB.out)⟩⟩
  case rest =>
    clear HC2
    try clear p2
    try clear c3
    try clear c3b0
    try clear c3b1
    obtain ⟨kq, x19_1, rfl, HA, HJ1, HB⟩ := hcut
    cases kq with
    | zero => exact absurd HA.out (by simp [impl_ReadV6.j0])
    | succ kj1 =>
      have H := HA.out
      clear HA
      simp only [impl_ReadV6.j0] at H
      by_cases c4 : x19_1 = true
      · subst c4
        have H1 : (some ((⟨#[]⟩ : ByteArray), 7)) = some (r1, r2) := by rw [if_pos rfl] at H; exact H
        clear H
        have H := H1
        clear H1
        simp only [Option.some.injEq, Prod.mk.injEq] at H
        obtain ⟨rfl, rfl⟩ := H
        go_wp2
        go_ret2
        exact ⟨by first | rfl | (simp [errW_none, errW_some] <;> rfl) | (simp [*, errW_none, errW_some] <;> rfl), by repeat (first | (with_reducible first | exact HB.out | apply below_alloc | apply pw_below_drewN | apply below_drew1) | exact HB.out)⟩
      · replace c4 := Bool.eq_false_iff.mpr c4
        subst c4
        have H1 : ((strings_Cut.f a0 (⟨#[58, 58]⟩ : ByteArray)).bind fun bt101 => (if bt101.2.2 = true then ((impl_groups.f kj1 bt101.1 false).bind fun bt106 => ((impl_groups.f kj1 bt101.2.1 true).bind fun bt108 => (if bt106.2 = true then (if bt108.2 = true then (if (wrap64 ((bt106.1.size : Int) + (bt108.1.size : Int))) > 14 then (some ((⟨#[]⟩ : ByteArray), 7)) else ((strings_HasPrefix.f bt101.2.1 (⟨#[58]⟩ : ByteArray)).bind fun t110 => (if t110 = true then (some ((⟨#[]⟩ : ByteArray), 7)) else ((strings_Repeat.f (⟨#[0]⟩ : ByteArray) (wrap64 ((wrap64 (16 - (bt106.1.size : Int))) - (bt108.1.size : Int)))).bind fun t111 => (if bt106.1.size + t111.size ≤ 9223372036854775807 then (if (bt106.1 ++ t111).size + bt108.1.size ≤ 9223372036854775807 then (some ((bt106.1 ++ t111) ++ bt108.1, 0)) else (none)) else (none)))))) else (some ((⟨#[]⟩ : ByteArray), 7))) else (some ((⟨#[]⟩ : ByteArray), 7))))) else ((impl_groups.f kj1 a0 true).bind fun bt104 => (if bt104.2 = true then (if (bt104.1.size : Int) = 16 then (some (bt104.1, 0)) else (some ((⟨#[]⟩ : ByteArray), 7))) else (some ((⟨#[]⟩ : ByteArray), 7)))))) = some (r1, r2) := by rw [if_neg (show ¬ (false = true) by decide)] at H; exact H
        clear H
        have H := H1
        clear H1
        replace H := Option.bind_eq_some_iff.mp H
        obtain ⟨⟨t101, t102, t103⟩, A50, H⟩ := H
        replace H : (if t103 = true then ((impl_groups.f kj1 t101 false).bind fun bt106 => ((impl_groups.f kj1 t102 true).bind fun bt108 => (if bt106.2 = true then (if bt108.2 = true then (if (wrap64 ((bt106.1.size : Int) + (bt108.1.size : Int))) > 14 then (some ((⟨#[]⟩ : ByteArray), 7)) else ((strings_HasPrefix.f t102 (⟨#[58]⟩ : ByteArray)).bind fun t110 => (if t110 = true then (some ((⟨#[]⟩ : ByteArray), 7)) else ((strings_Repeat.f (⟨#[0]⟩ : ByteArray) (wrap64 ((wrap64 (16 - (bt106.1.size : Int))) - (bt108.1.size : Int)))).bind fun t111 => (if bt106.1.size + t111.size ≤ 9223372036854775807 then (if (bt106.1 ++ t111).size + bt108.1.size ≤ 9223372036854775807 then (some ((bt106.1 ++ t111) ++ bt108.1, 0)) else (none)) else (none)))))) else (some ((⟨#[]⟩ : ByteArray), 7))) else (some ((⟨#[]⟩ : ByteArray), 7))))) else ((impl_groups.f kj1 a0 true).bind fun bt104 => (if bt104.2 = true then (if (bt104.1.size : Int) = 16 then (some (bt104.1, 0)) else (some ((⟨#[]⟩ : ByteArray), 7))) else (some ((⟨#[]⟩ : ByteArray), 7))))) = some (r1, r2) := H
        have A5 := Aside0.mk A50
        clear A50
        by_cases c6 : t103 = true
        · subst c6
          have H1 : ((impl_groups.f kj1 t101 false).bind fun bt106 => ((impl_groups.f kj1 t102 true).bind fun bt108 => (if bt106.2 = true then (if bt108.2 = true then (if (wrap64 ((bt106.1.size : Int) + (bt108.1.size : Int))) > 14 then (some ((⟨#[]⟩ : ByteArray), 7)) else ((strings_HasPrefix.f t102 (⟨#[58]⟩ : ByteArray)).bind fun t110 => (if t110 = true then (some ((⟨#[]⟩ : ByteArray), 7)) else ((strings_Repeat.f (⟨#[0]⟩ : ByteArray) (wrap64 ((wrap64 (16 - (bt106.1.size : Int))) - (bt108.1.size : Int)))).bind fun t111 => (if bt106.1.size + t111.size ≤ 9223372036854775807 then (if (bt106.1 ++ t111).size + bt108.1.size ≤ 9223372036854775807 then (some ((bt106.1 ++ t111) ++ bt108.1, 0)) else (none)) else (none)))))) else (some ((⟨#[]⟩ : ByteArray), 7))) else (some ((⟨#[]⟩ : ByteArray), 7))))) = some (r1, r2) := by rw [if_pos rfl] at H; exact H
          clear H
          have H := H1
          clear H1
          replace H := Option.bind_eq_some_iff.mp H
          obtain ⟨⟨t106, t107⟩, A70, H⟩ := H
          replace H : ((impl_groups.f kj1 t102 true).bind fun bt108 => (if t107 = true then (if bt108.2 = true then (if (wrap64 ((t106.size : Int) + (bt108.1.size : Int))) > 14 then (some ((⟨#[]⟩ : ByteArray), 7)) else ((strings_HasPrefix.f t102 (⟨#[58]⟩ : ByteArray)).bind fun t110 => (if t110 = true then (some ((⟨#[]⟩ : ByteArray), 7)) else ((strings_Repeat.f (⟨#[0]⟩ : ByteArray) (wrap64 ((wrap64 (16 - (t106.size : Int))) - (bt108.1.size : Int)))).bind fun t111 => (if t106.size + t111.size ≤ 9223372036854775807 then (if (t106 ++ t111).size + bt108.1.size ≤ 9223372036854775807 then (some ((t106 ++ t111) ++ bt108.1, 0)) else (none)) else (none)))))) else (some ((⟨#[]⟩ : ByteArray), 7))) else (some ((⟨#[]⟩ : ByteArray), 7)))) = some (r1, r2) := H
          have A7 := Aside0.mk A70
          clear A70
          replace H := Option.bind_eq_some_iff.mp H
          obtain ⟨⟨t108, t109⟩, A80, H⟩ := H
          replace H : (if t107 = true then (if t109 = true then (if (wrap64 ((t106.size : Int) + (t108.size : Int))) > 14 then (some ((⟨#[]⟩ : ByteArray), 7)) else ((strings_HasPrefix.f t102 (⟨#[58]⟩ : ByteArray)).bind fun t110 => (if t110 = true then (some ((⟨#[]⟩ : ByteArray), 7)) else ((strings_Repeat.f (⟨#[0]⟩ : ByteArray) (wrap64 ((wrap64 (16 - (t106.size : Int))) - (t108.size : Int)))).bind fun t111 => (if t106.size + t111.size ≤ 9223372036854775807 then (if (t106 ++ t111).size + t108.size ≤ 9223372036854775807 then (some ((t106 ++ t111) ++ t108, 0)) else (none)) else (none)))))) else (some ((⟨#[]⟩ : ByteArray), 7))) else (some ((⟨#[]⟩ : ByteArray), 7))) = some (r1, r2) := H
          have A8 := Aside0.mk A80
          clear A80
          by_cases c9 : t107 = true
          · subst c9
            have H1 : (if t109 = true then (if (wrap64 ((t106.size : Int) + (t108.size : Int))) > 14 then (some ((⟨#[]⟩ : ByteArray), 7)) else ((strings_HasPrefix.f t102 (⟨#[58]⟩ : ByteArray)).bind fun t110 => (if t110 = true then (some ((⟨#[]⟩ : ByteArray), 7)) else ((strings_Repeat.f (⟨#[0]⟩ : ByteArray) (wrap64 ((wrap64 (16 - (t106.size : Int))) - (t108.size : Int)))).bind fun t111 => (if t106.size + t111.size ≤ 9223372036854775807 then (if (t106 ++ t111).size + t108.size ≤ 9223372036854775807 then (some ((t106 ++ t111) ++ t108, 0)) else (none)) else (none)))))) else (some ((⟨#[]⟩ : ByteArray), 7))) = some (r1, r2) := by rw [if_pos rfl] at H; exact H
            clear H
            have H := H1
            clear H1
            by_cases c10 : t109 = true
            · subst c10
              have H1 : (if (wrap64 ((t106.size : Int) + (t108.size : Int))) > 14 then (some ((⟨#[]⟩ : ByteArray), 7)) else ((strings_HasPrefix.f t102 (⟨#[58]⟩ : ByteArray)).bind fun t110 => (if t110 = true then (some ((⟨#[]⟩ : ByteArray), 7)) else ((strings_Repeat.f (⟨#[0]⟩ : ByteArray) (wrap64 ((wrap64 (16 - (t106.size : Int))) - (t108.size : Int)))).bind fun t111 => (if t106.size + t111.size ≤ 9223372036854775807 then (if (t106 ++ t111).size + t108.size ≤ 9223372036854775807 then (some ((t106 ++ t111) ++ t108, 0)) else (none)) else (none)))))) = some (r1, r2) := by rw [if_pos rfl] at H; exact H
              clear H
              have H := H1
              clear H1
              by_cases c11 : (wrap64 ((t106.size : Int) + (t108.size : Int))) > 14
              · rw [if_pos c11] at H
                have c11b0 : decide (14 < (wrap64 ((t106.size : Int) + (t108.size : Int)))) = true := decide_eq_true c11
                clear c11
                simp only [Option.some.injEq, Prod.mk.injEq] at H
                obtain ⟨rfl, rfl⟩ := H
                go_wp2_with (first | ((with_reducible refine gate_callee (f := 7) rfl ?_); refine goesL_ (some 22) rfl rfl Tryd.func7 (by kernel_rfl) rfl #[.string a0, .string (⟨#[58, 58]⟩ : ByteArray)] rfl (by (try simp only [List.map_toArray, List.map_cons, List.map_nil]); first | done | rfl | (simp only [List.length_drop, List.length_take]; rfl)) ?_; (with_reducible refine (strings_Cut.calls a0 (⟨#[58, 58]⟩ : ByteArray) t101 t102 true _ A5.out (HGLen.out.below (by repeat (first | (with_reducible first | exact HB.out | apply below_alloc | apply pw_below_drewN | apply below_drew1) | exact HB.out)))).mono ?_); rintro e w' ⟨rfl, ⟨nd, rfl⟩⟩; refine ⟨_, rfl, ?_⟩) | ((with_reducible refine gate_callee (f := 8) rfl ?_); refine goesL_ (some 43) rfl rfl Tryd.func8 (by kernel_rfl) rfl #[.string t101, .bool false] rfl (by (try simp only [List.map_toArray, List.map_cons, List.map_nil]); first | done | rfl | (simp only [List.length_drop, List.length_take]; rfl)) ?_; (with_reducible refine (impl_groups.calls kj1 t101 false t106 true _ A7.out (HGLen.out.below (by repeat (first | (with_reducible first | exact HB.out | apply below_alloc | apply pw_below_drewN | apply below_drew1) | exact HB.out))) (HGE.out.below (by repeat (first | (with_reducible first | exact HB.out | apply below_alloc | apply pw_below_drewN | apply below_drew1) | exact HB.out)))).mono ?_); rintro e w12 ⟨rfl, hb⟩; refine ⟨_, rfl, ?_⟩; have n0_ := Aside0.mk (below_step (by repeat (first | (with_reducible first | exact HB.out | apply below_alloc | apply pw_below_drewN | apply below_drew1) | exact HB.out)) hb); clear HB; have HB := n0_; clear n0_; (try clear hb); (try clear hb2); (try clear hk); (try clear hi)) | ((with_reducible refine gate_callee (f := 8) rfl ?_); refine goesL_ (some 48) rfl rfl Tryd.func8 (by kernel_rfl) rfl #[.string t102, .bool true] rfl (by (try simp only [List.map_toArray, List.map_cons, List.map_nil]); first | done | rfl | (simp only [List.length_drop, List.length_take]; rfl)) ?_; (with_reducible refine (impl_groups.calls kj1 t102 true t108 true _ A8.out (HGLen.out.below (by repeat (first | (with_reducible first | exact HB.out | apply below_alloc | apply pw_below_drewN | apply below_drew1) | exact HB.out))) (HGE.out.below (by repeat (first | (with_reducible first | exact HB.out | apply below_alloc | apply pw_below_drewN | apply below_drew1) | exact HB.out)))).mono ?_); rintro e w13 ⟨rfl, hb⟩; refine ⟨_, rfl, ?_⟩; have n0_ := Aside0.mk (below_step (by repeat (first | (with_reducible first | exact HB.out | apply below_alloc | apply pw_below_drewN | apply below_drew1) | exact HB.out)) hb); clear HB; have HB := n0_; clear n0_; (try clear hb); (try clear hb2); (try clear hk); (try clear hi)))
                go_ret2
                exact ⟨by first | rfl | (simp [errW_none, errW_some] <;> rfl) | (simp [*, errW_none, errW_some] <;> rfl), by repeat (first | (with_reducible first | exact HB.out | apply below_alloc | apply pw_below_drewN | apply below_drew1) | exact HB.out)⟩
              · rw [if_neg c11] at H
                have c11b0 : decide (14 < (wrap64 ((t106.size : Int) + (t108.size : Int)))) = false := decide_eq_false c11
                clear c11
                replace H := Option.bind_eq_some_iff.mp H
                obtain ⟨t110, A140, H⟩ := H
                replace H : (if t110 = true then (some ((⟨#[]⟩ : ByteArray), 7)) else ((strings_Repeat.f (⟨#[0]⟩ : ByteArray) (wrap64 ((wrap64 (16 - (t106.size : Int))) - (t108.size : Int)))).bind fun t111 => (if t106.size + t111.size ≤ 9223372036854775807 then (if (t106 ++ t111).size + t108.size ≤ 9223372036854775807 then (some ((t106 ++ t111) ++ t108, 0)) else (none)) else (none)))) = some (r1, r2) := H
                have A14 := Aside0.mk A140
                clear A140
                by_cases c15 : t110 = true
                · subst c15
                  have H1 : (some ((⟨#[]⟩ : ByteArray), 7)) = some (r1, r2) := by rw [if_pos rfl] at H; exact H
                  clear H
                  have H := H1
                  clear H1
                  simp only [Option.some.injEq, Prod.mk.injEq] at H
                  obtain ⟨rfl, rfl⟩ := H
                  go_wp2_with (first | ((with_reducible refine gate_callee (f := 7) rfl ?_); refine goesL_ (some 22) rfl rfl Tryd.func7 (by kernel_rfl) rfl #[.string a0, .string (⟨#[58, 58]⟩ : ByteArray)] rfl (by (try simp only [List.map_toArray, List.map_cons, List.map_nil]); first | done | rfl | (simp only [List.length_drop, List.length_take]; rfl)) ?_; (with_reducible refine (strings_Cut.calls a0 (⟨#[58, 58]⟩ : ByteArray) t101 t102 true _ A5.out (HGLen.out.below (by repeat (first | (with_reducible first | exact HB.out | apply below_alloc | apply pw_below_drewN | apply below_drew1) | exact HB.out)))).mono ?_); rintro e w' ⟨rfl, ⟨nd, rfl⟩⟩; refine ⟨_, rfl, ?_⟩) | ((with_reducible refine gate_callee (f := 8) rfl ?_); refine goesL_ (some 43) rfl rfl Tryd.func8 (by kernel_rfl) rfl #[.string t101, .bool false] rfl (by (try simp only [List.map_toArray, List.map_cons, List.map_nil]); first | done | rfl | (simp only [List.length_drop, List.length_take]; rfl)) ?_; (with_reducible refine (impl_groups.calls kj1 t101 false t106 true _ A7.out (HGLen.out.below (by repeat (first | (with_reducible first | exact HB.out | apply below_alloc | apply pw_below_drewN | apply below_drew1) | exact HB.out))) (HGE.out.below (by repeat (first | (with_reducible first | exact HB.out | apply below_alloc | apply pw_below_drewN | apply below_drew1) | exact HB.out)))).mono ?_); rintro e w16 ⟨rfl, hb⟩; refine ⟨_, rfl, ?_⟩; have n0_ := Aside0.mk (below_step (by repeat (first | (with_reducible first | exact HB.out | apply below_alloc | apply pw_below_drewN | apply below_drew1) | exact HB.out)) hb); clear HB; have HB := n0_; clear n0_; (try clear hb); (try clear hb2); (try clear hk); (try clear hi)) | ((with_reducible refine gate_callee (f := 8) rfl ?_); refine goesL_ (some 48) rfl rfl Tryd.func8 (by kernel_rfl) rfl #[.string t102, .bool true] rfl (by (try simp only [List.map_toArray, List.map_cons, List.map_nil]); first | done | rfl | (simp only [List.length_drop, List.length_take]; rfl)) ?_; (with_reducible refine (impl_groups.calls kj1 t102 true t108 true _ A8.out (HGLen.out.below (by repeat (first | (with_reducible first | exact HB.out | apply below_alloc | apply pw_below_drewN | apply below_drew1) | exact HB.out))) (HGE.out.below (by repeat (first | (with_reducible first | exact HB.out | apply below_alloc | apply pw_below_drewN | apply below_drew1) | exact HB.out)))).mono ?_); rintro e w17 ⟨rfl, hb⟩; refine ⟨_, rfl, ?_⟩; have n0_ := Aside0.mk (below_step (by repeat (first | (with_reducible first | exact HB.out | apply below_alloc | apply pw_below_drewN | apply below_drew1) | exact HB.out)) hb); clear HB; have HB := n0_; clear n0_; (try clear hb); (try clear hb2); (try clear hk); (try clear hi)) | (go_at_call 9; (with_reducible refine (strings_HasPrefix.calls t102 (⟨#[58]⟩ : ByteArray) true _ A14.out).mono ?_); rintro e w' ⟨rfl, ⟨nd, rfl⟩⟩))
                  go_ret2
                  exact ⟨by first | rfl | (simp [errW_none, errW_some] <;> rfl) | (simp [*, errW_none, errW_some] <;> rfl), by repeat (first | (with_reducible first | exact HB.out | apply below_alloc | apply pw_below_drewN | apply below_drew1) | exact HB.out)⟩
                · replace c15 := Bool.eq_false_iff.mpr c15
                  subst c15
                  have H1 : ((strings_Repeat.f (⟨#[0]⟩ : ByteArray) (wrap64 ((wrap64 (16 - (t106.size : Int))) - (t108.size : Int)))).bind fun t111 => (if t106.size + t111.size ≤ 9223372036854775807 then (if (t106 ++ t111).size + t108.size ≤ 9223372036854775807 then (some ((t106 ++ t111) ++ t108, 0)) else (none)) else (none))) = some (r1, r2) := by rw [if_neg (show ¬ (false = true) by decide)] at H; exact H
                  clear H
                  have H := H1
                  clear H1
                  replace H := Option.bind_eq_some_iff.mp H
                  obtain ⟨t111, A180, H⟩ := H
                  replace H : (if t106.size + t111.size ≤ 9223372036854775807 then (if (t106 ++ t111).size + t108.size ≤ 9223372036854775807 then (some ((t106 ++ t111) ++ t108, 0)) else (none)) else (none)) = some (r1, r2) := H
                  have A18 := Aside0.mk A180
                  clear A180
                  by_cases c19 : t106.size + t111.size ≤ 9223372036854775807
                  · rw [if_pos c19] at H
                    have c19b0 := eq_true c19
                    have c19b1 : decide (t106.size + t111.size ≤ 9223372036854775807) = true := decide_eq_true c19
                    try have c19b2 : (9223372036854775807 < t106.size + t111.size) = False := eq_false (Nat.not_lt.2 c19)
                    try have c19b3 : (9223372036854775807 < t106.size + t111.size) = False := eq_false (Nat.not_lt.2 (by have h := c19; simp only [ByteArray.size_append, ByteArray.size_extract, Nat.min_self, Nat.sub_zero] at h; first | with_reducible exact h | omega))
                    by_cases c20 : (t106 ++ t111).size + t108.size ≤ 9223372036854775807
                    · rw [if_pos c20] at H
                      have c20b0 := eq_true c20
                      have c20b1 : decide ((t106 ++ t111).size + t108.size ≤ 9223372036854775807) = true := decide_eq_true c20
                      try have c20b2 : (9223372036854775807 < (t106 ++ t111).size + t108.size) = False := eq_false (Nat.not_lt.2 c20)
                      try have c20b3 : (9223372036854775807 < (t106.size + t111.size) + t108.size) = False := eq_false (Nat.not_lt.2 (by have h := c20; simp only [ByteArray.size_append, ByteArray.size_extract, Nat.min_self, Nat.sub_zero] at h; first | with_reducible exact h | omega))
                      simp only [Option.some.injEq, Prod.mk.injEq] at H
                      obtain ⟨rfl, rfl⟩ := H
                      go_wp2_with (first | ((with_reducible refine gate_callee (f := 7) rfl ?_); refine goesL_ (some 22) rfl rfl Tryd.func7 (by kernel_rfl) rfl #[.string a0, .string (⟨#[58, 58]⟩ : ByteArray)] rfl (by (try simp only [List.map_toArray, List.map_cons, List.map_nil]); first | done | rfl | (simp only [List.length_drop, List.length_take]; rfl)) ?_; (with_reducible refine (strings_Cut.calls a0 (⟨#[58, 58]⟩ : ByteArray) t101 t102 true _ A5.out (HGLen.out.below (by repeat (first | (with_reducible first | exact HB.out | apply below_alloc | apply pw_below_drewN | apply below_drew1) | exact HB.out)))).mono ?_); rintro e w' ⟨rfl, ⟨nd, rfl⟩⟩; refine ⟨_, rfl, ?_⟩) | ((with_reducible refine gate_callee (f := 8) rfl ?_); refine goesL_ (some 43) rfl rfl Tryd.func8 (by kernel_rfl) rfl #[.string t101, .bool false] rfl (by (try simp only [List.map_toArray, List.map_cons, List.map_nil]); first | done | rfl | (simp only [List.length_drop, List.length_take]; rfl)) ?_; (with_reducible refine (impl_groups.calls kj1 t101 false t106 true _ A7.out (HGLen.out.below (by repeat (first | (with_reducible first | exact HB.out | apply below_alloc | apply pw_below_drewN | apply below_drew1) | exact HB.out))) (HGE.out.below (by repeat (first | (with_reducible first | exact HB.out | apply below_alloc | apply pw_below_drewN | apply below_drew1) | exact HB.out)))).mono ?_); rintro e w21 ⟨rfl, hb⟩; refine ⟨_, rfl, ?_⟩; have n0_ := Aside0.mk (below_step (by repeat (first | (with_reducible first | exact HB.out | apply below_alloc | apply pw_below_drewN | apply below_drew1) | exact HB.out)) hb); clear HB; have HB := n0_; clear n0_; (try clear hb); (try clear hb2); (try clear hk); (try clear hi)) | ((with_reducible refine gate_callee (f := 8) rfl ?_); refine goesL_ (some 48) rfl rfl Tryd.func8 (by kernel_rfl) rfl #[.string t102, .bool true] rfl (by (try simp only [List.map_toArray, List.map_cons, List.map_nil]); first | done | rfl | (simp only [List.length_drop, List.length_take]; rfl)) ?_; (with_reducible refine (impl_groups.calls kj1 t102 true t108 true _ A8.out (HGLen.out.below (by repeat (first | (with_reducible first | exact HB.out | apply below_alloc | apply pw_below_drewN | apply below_drew1) | exact HB.out))) (HGE.out.below (by repeat (first | (with_reducible first | exact HB.out | apply below_alloc | apply pw_below_drewN | apply below_drew1) | exact HB.out)))).mono ?_); rintro e w22 ⟨rfl, hb⟩; refine ⟨_, rfl, ?_⟩; have n0_ := Aside0.mk (below_step (by repeat (first | (with_reducible first | exact HB.out | apply below_alloc | apply pw_below_drewN | apply below_drew1) | exact HB.out)) hb); clear HB; have HB := n0_; clear n0_; (try clear hb); (try clear hb2); (try clear hk); (try clear hi)) | (go_at_call 9; (with_reducible refine (strings_HasPrefix.calls t102 (⟨#[58]⟩ : ByteArray) false _ A14.out).mono ?_); rintro e w' ⟨rfl, ⟨nd, rfl⟩⟩) | ((with_reducible refine gate_callee (f := 10) rfl ?_); refine goesL_ (some 76) rfl rfl Tryd.func10 (by kernel_rfl) rfl #[.string (⟨#[0]⟩ : ByteArray), .int .i64 (wrap64 ((wrap64 (16 - (t106.size : Int))) - (t108.size : Int)))] rfl (by (try simp only [List.map_toArray, List.map_cons, List.map_nil]); first | done | (refine congrArg (fun z_ => #[Value.string (⟨#[0]⟩ : ByteArray), Value.int .i64 z_]) (?_ : _ = ((wrap64 ((wrap64 (16 - (t106.size : Int))) - (t108.size : Int))) : Int)); unfold wrap64; omega) | rfl | (simp only [List.length_drop, List.length_take]; rfl)) ?_; (with_reducible refine (strings_Repeat.calls (⟨#[0]⟩ : ByteArray) (wrap64 ((wrap64 (16 - (t106.size : Int))) - (t108.size : Int))) t111 _ A18.out).mono ?_); rintro e w23 ⟨rfl, hb⟩; refine ⟨_, rfl, ?_⟩; have n0_ := Aside0.mk (below_step (by repeat (first | (with_reducible first | exact HB.out | apply below_alloc | apply pw_below_drewN | apply below_drew1) | exact HB.out)) hb); clear HB; have HB := n0_; clear n0_; (try clear hb); (try clear hb2); (try clear hk); (try clear hi)))
                      go_ret2
                      exact ⟨by first | rfl | (simp [errW_none, errW_some] <;> rfl) | (simp [*, errW_none, errW_some] <;> rfl), by repeat (first | (with_reducible first | exact HB.out | apply below_alloc | apply pw_below_drewN | apply below_drew1) | exact HB.out)⟩
                    · rw [if_neg c20] at H
                      exact absurd H (by simp)
                  · rw [if_neg c19] at H
                    exact absurd H (by simp)
            · replace c10 := Bool.eq_false_iff.mpr c10
              subst c10
              have H1 : (some ((⟨#[]⟩ : ByteArray), 7)) = some (r1, r2) := by rw [if_neg (show ¬ (false = true) by decide)] at H; exact H
              clear H
              have H := H1
              clear H1
              simp only [Option.some.injEq, Prod.mk.injEq] at H
              obtain ⟨rfl, rfl⟩ := H
              go_wp2_with (first | ((with_reducible refine gate_callee (f := 7) rfl ?_); refine goesL_ (some 22) rfl rfl Tryd.func7 (by kernel_rfl) rfl #[.string a0, .string (⟨#[58, 58]⟩ : ByteArray)] rfl (by (try simp only [List.map_toArray, List.map_cons, List.map_nil]); first | done | rfl | (simp only [List.length_drop, List.length_take]; rfl)) ?_; (with_reducible refine (strings_Cut.calls a0 (⟨#[58, 58]⟩ : ByteArray) t101 t102 true _ A5.out (HGLen.out.below (by repeat (first | (with_reducible first | exact HB.out | apply below_alloc | apply pw_below_drewN | apply below_drew1) | exact HB.out)))).mono ?_); rintro e w' ⟨rfl, ⟨nd, rfl⟩⟩; refine ⟨_, rfl, ?_⟩) | ((with_reducible refine gate_callee (f := 8) rfl ?_); refine goesL_ (some 43) rfl rfl Tryd.func8 (by kernel_rfl) rfl #[.string t101, .bool false] rfl (by (try simp only [List.map_toArray, List.map_cons, List.map_nil]); first | done | rfl | (simp only [List.length_drop, List.length_take]; rfl)) ?_; (with_reducible refine (impl_groups.calls kj1 t101 false t106 true _ A7.out (HGLen.out.below (by repeat (first | (with_reducible first | exact HB.out | apply below_alloc | apply pw_below_drewN | apply below_drew1) | exact HB.out))) (HGE.out.below (by repeat (first | (with_reducible first | exact HB.out | apply below_alloc | apply pw_below_drewN | apply below_drew1) | exact HB.out)))).mono ?_); rintro e w24 ⟨rfl, hb⟩; refine ⟨_, rfl, ?_⟩; have n0_ := Aside0.mk (below_step (by repeat (first | (with_reducible first | exact HB.out | apply below_alloc | apply pw_below_drewN | apply below_drew1) | exact HB.out)) hb); clear HB; have HB := n0_; clear n0_; (try clear hb); (try clear hb2); (try clear hk); (try clear hi)) | ((with_reducible refine gate_callee (f := 8) rfl ?_); refine goesL_ (some 48) rfl rfl Tryd.func8 (by kernel_rfl) rfl #[.string t102, .bool true] rfl (by (try simp only [List.map_toArray, List.map_cons, List.map_nil]); first | done | rfl | (simp only [List.length_drop, List.length_take]; rfl)) ?_; (with_reducible refine (impl_groups.calls kj1 t102 true t108 false _ A8.out (HGLen.out.below (by repeat (first | (with_reducible first | exact HB.out | apply below_alloc | apply pw_below_drewN | apply below_drew1) | exact HB.out))) (HGE.out.below (by repeat (first | (with_reducible first | exact HB.out | apply below_alloc | apply pw_below_drewN | apply below_drew1) | exact HB.out)))).mono ?_); rintro e w25 ⟨rfl, hb⟩; refine ⟨_, rfl, ?_⟩; have n0_ := Aside0.mk (below_step (by repeat (first | (with_reducible first | exact HB.out | apply below_alloc | apply pw_below_drewN | apply below_drew1) | exact HB.out)) hb); clear HB; have HB := n0_; clear n0_; (try clear hb); (try clear hb2); (try clear hk); (try clear hi)))
              go_ret2
              exact ⟨by first | rfl | (simp [errW_none, errW_some] <;> rfl) | (simp [*, errW_none, errW_some] <;> rfl), by repeat (first | (with_reducible first | exact HB.out | apply below_alloc | apply pw_below_drewN | apply below_drew1) | exact HB.out)⟩
          · replace c9 := Bool.eq_false_iff.mpr c9
            subst c9
            have H1 : (some ((⟨#[]⟩ : ByteArray), 7)) = some (r1, r2) := by rw [if_neg (show ¬ (false = true) by decide)] at H; exact H
            clear H
            have H := H1
            clear H1
            simp only [Option.some.injEq, Prod.mk.injEq] at H
            obtain ⟨rfl, rfl⟩ := H
            go_wp2_with (first | ((with_reducible refine gate_callee (f := 7) rfl ?_); refine goesL_ (some 22) rfl rfl Tryd.func7 (by kernel_rfl) rfl #[.string a0, .string (⟨#[58, 58]⟩ : ByteArray)] rfl (by (try simp only [List.map_toArray, List.map_cons, List.map_nil]); first | done | rfl | (simp only [List.length_drop, List.length_take]; rfl)) ?_; (with_reducible refine (strings_Cut.calls a0 (⟨#[58, 58]⟩ : ByteArray) t101 t102 true _ A5.out (HGLen.out.below (by repeat (first | (with_reducible first | exact HB.out | apply below_alloc | apply pw_below_drewN | apply below_drew1) | exact HB.out)))).mono ?_); rintro e w' ⟨rfl, ⟨nd, rfl⟩⟩; refine ⟨_, rfl, ?_⟩) | ((with_reducible refine gate_callee (f := 8) rfl ?_); refine goesL_ (some 43) rfl rfl Tryd.func8 (by kernel_rfl) rfl #[.string t101, .bool false] rfl (by (try simp only [List.map_toArray, List.map_cons, List.map_nil]); first | done | rfl | (simp only [List.length_drop, List.length_take]; rfl)) ?_; (with_reducible refine (impl_groups.calls kj1 t101 false t106 false _ A7.out (HGLen.out.below (by repeat (first | (with_reducible first | exact HB.out | apply below_alloc | apply pw_below_drewN | apply below_drew1) | exact HB.out))) (HGE.out.below (by repeat (first | (with_reducible first | exact HB.out | apply below_alloc | apply pw_below_drewN | apply below_drew1) | exact HB.out)))).mono ?_); rintro e w26 ⟨rfl, hb⟩; refine ⟨_, rfl, ?_⟩; have n0_ := Aside0.mk (below_step (by repeat (first | (with_reducible first | exact HB.out | apply below_alloc | apply pw_below_drewN | apply below_drew1) | exact HB.out)) hb); clear HB; have HB := n0_; clear n0_; (try clear hb); (try clear hb2); (try clear hk); (try clear hi)) | ((with_reducible refine gate_callee (f := 8) rfl ?_); refine goesL_ (some 48) rfl rfl Tryd.func8 (by kernel_rfl) rfl #[.string t102, .bool true] rfl (by (try simp only [List.map_toArray, List.map_cons, List.map_nil]); first | done | rfl | (simp only [List.length_drop, List.length_take]; rfl)) ?_; (with_reducible refine (impl_groups.calls kj1 t102 true t108 t109 _ A8.out (HGLen.out.below (by repeat (first | (with_reducible first | exact HB.out | apply below_alloc | apply pw_below_drewN | apply below_drew1) | exact HB.out))) (HGE.out.below (by repeat (first | (with_reducible first | exact HB.out | apply below_alloc | apply pw_below_drewN | apply below_drew1) | exact HB.out)))).mono ?_); rintro e w27 ⟨rfl, hb⟩; refine ⟨_, rfl, ?_⟩; have n0_ := Aside0.mk (below_step (by repeat (first | (with_reducible first | exact HB.out | apply below_alloc | apply pw_below_drewN | apply below_drew1) | exact HB.out)) hb); clear HB; have HB := n0_; clear n0_; (try clear hb); (try clear hb2); (try clear hk); (try clear hi)))
            go_ret2
            exact ⟨by first | rfl | (simp [errW_none, errW_some] <;> rfl) | (simp [*, errW_none, errW_some] <;> rfl), by repeat (first | (with_reducible first | exact HB.out | apply below_alloc | apply pw_below_drewN | apply below_drew1) | exact HB.out)⟩
        · replace c6 := Bool.eq_false_iff.mpr c6
          subst c6
          have H1 : ((impl_groups.f kj1 a0 true).bind fun bt104 => (if bt104.2 = true then (if (bt104.1.size : Int) = 16 then (some (bt104.1, 0)) else (some ((⟨#[]⟩ : ByteArray), 7))) else (some ((⟨#[]⟩ : ByteArray), 7)))) = some (r1, r2) := by rw [if_neg (show ¬ (false = true) by decide)] at H; exact H
          clear H
          have H := H1
          clear H1
          replace H := Option.bind_eq_some_iff.mp H
          obtain ⟨⟨t104, t105⟩, A280, H⟩ := H
          replace H : (if t105 = true then (if (t104.size : Int) = 16 then (some (t104, 0)) else (some ((⟨#[]⟩ : ByteArray), 7))) else (some ((⟨#[]⟩ : ByteArray), 7))) = some (r1, r2) := H
          have A28 := Aside0.mk A280
          clear A280
          by_cases c29 : t105 = true
          · subst c29
            have H1 : (if (t104.size : Int) = 16 then (some (t104, 0)) else (some ((⟨#[]⟩ : ByteArray), 7))) = some (r1, r2) := by rw [if_pos rfl] at H; exact H
            clear H
            have H := H1
            clear H1
            by_cases c30 : (t104.size : Int) = 16
            · rw [if_pos c30] at H
              have c30b0 : ((t104.size : Int) == 16) = true := beq_iff_eq.mpr c30
              have c30b1 : ((t104.size : Int) != 16) = false := bne_eq_false_iff_eq.mpr c30
              clear c30
              simp only [Option.some.injEq, Prod.mk.injEq] at H
              obtain ⟨rfl, rfl⟩ := H
              go_wp2_with (first | ((with_reducible refine gate_callee (f := 7) rfl ?_); refine goesL_ (some 22) rfl rfl Tryd.func7 (by kernel_rfl) rfl #[.string a0, .string (⟨#[58, 58]⟩ : ByteArray)] rfl (by (try simp only [List.map_toArray, List.map_cons, List.map_nil]); first | done | rfl | (simp only [List.length_drop, List.length_take]; rfl)) ?_; (with_reducible refine (strings_Cut.calls a0 (⟨#[58, 58]⟩ : ByteArray) t101 t102 false _ A5.out (HGLen.out.below (by repeat (first | (with_reducible first | exact HB.out | apply below_alloc | apply pw_below_drewN | apply below_drew1) | exact HB.out)))).mono ?_); rintro e w' ⟨rfl, ⟨nd, rfl⟩⟩; refine ⟨_, rfl, ?_⟩) | ((with_reducible refine gate_callee (f := 8) rfl ?_); refine goesL_ (some 30) rfl rfl Tryd.func8 (by kernel_rfl) rfl #[.string a0, .bool true] rfl (by (try simp only [List.map_toArray, List.map_cons, List.map_nil]); first | done | rfl | (simp only [List.length_drop, List.length_take]; rfl)) ?_; (with_reducible refine (impl_groups.calls kj1 a0 true t104 true _ A28.out (HGLen.out.below (by repeat (first | (with_reducible first | exact HB.out | apply below_alloc | apply pw_below_drewN | apply below_drew1) | exact HB.out))) (HGE.out.below (by repeat (first | (with_reducible first | exact HB.out | apply below_alloc | apply pw_below_drewN | apply below_drew1) | exact HB.out)))).mono ?_); rintro e w31 ⟨rfl, hb⟩; refine ⟨_, rfl, ?_⟩; have n0_ := Aside0.mk (below_step (by repeat (first | (with_reducible first | exact HB.out | apply below_alloc | apply pw_below_drewN | apply below_drew1) | exact HB.out)) hb); clear HB; have HB := n0_; clear n0_; (try clear hb); (try clear hb2); (try clear hk); (try clear hi)))
              go_ret2
              exact ⟨by first | rfl | (simp [errW_none, errW_some] <;> rfl) | (simp [*, errW_none, errW_some] <;> rfl), by repeat (first | (with_reducible first | exact HB.out | apply below_alloc | apply pw_below_drewN | apply below_drew1) | exact HB.out)⟩
            · rw [if_neg c30] at H
              have c30b0 : ((t104.size : Int) == 16) = false := beq_eq_false_iff_ne.mpr c30
              have c30b1 : ((t104.size : Int) != 16) = true := bne_iff_ne.mpr c30
              simp only [Option.some.injEq, Prod.mk.injEq] at H
              obtain ⟨rfl, rfl⟩ := H
              go_wp2_with (first | ((with_reducible refine gate_callee (f := 7) rfl ?_); refine goesL_ (some 22) rfl rfl Tryd.func7 (by kernel_rfl) rfl #[.string a0, .string (⟨#[58, 58]⟩ : ByteArray)] rfl (by (try simp only [List.map_toArray, List.map_cons, List.map_nil]); first | done | rfl | (simp only [List.length_drop, List.length_take]; rfl)) ?_; (with_reducible refine (strings_Cut.calls a0 (⟨#[58, 58]⟩ : ByteArray) t101 t102 false _ A5.out (HGLen.out.below (by repeat (first | (with_reducible first | exact HB.out | apply below_alloc | apply pw_below_drewN | apply below_drew1) | exact HB.out)))).mono ?_); rintro e w' ⟨rfl, ⟨nd, rfl⟩⟩; refine ⟨_, rfl, ?_⟩) | ((with_reducible refine gate_callee (f := 8) rfl ?_); refine goesL_ (some 30) rfl rfl Tryd.func8 (by kernel_rfl) rfl #[.string a0, .bool true] rfl (by (try simp only [List.map_toArray, List.map_cons, List.map_nil]); first | done | rfl | (simp only [List.length_drop, List.length_take]; rfl)) ?_; (with_reducible refine (impl_groups.calls kj1 a0 true t104 true _ A28.out (HGLen.out.below (by repeat (first | (with_reducible first | exact HB.out | apply below_alloc | apply pw_below_drewN | apply below_drew1) | exact HB.out))) (HGE.out.below (by repeat (first | (with_reducible first | exact HB.out | apply below_alloc | apply pw_below_drewN | apply below_drew1) | exact HB.out)))).mono ?_); rintro e w32 ⟨rfl, hb⟩; refine ⟨_, rfl, ?_⟩; have n0_ := Aside0.mk (below_step (by repeat (first | (with_reducible first | exact HB.out | apply below_alloc | apply pw_below_drewN | apply below_drew1) | exact HB.out)) hb); clear HB; have HB := n0_; clear n0_; (try clear hb); (try clear hb2); (try clear hk); (try clear hi)))
              go_ret2
              exact ⟨by first | rfl | (simp [errW_none, errW_some] <;> rfl) | (simp [*, errW_none, errW_some] <;> rfl), by repeat (first | (with_reducible first | exact HB.out | apply below_alloc | apply pw_below_drewN | apply below_drew1) | exact HB.out)⟩
          · replace c29 := Bool.eq_false_iff.mpr c29
            subst c29
            have H1 : (some ((⟨#[]⟩ : ByteArray), 7)) = some (r1, r2) := by rw [if_neg (show ¬ (false = true) by decide)] at H; exact H
            clear H
            have H := H1
            clear H1
            simp only [Option.some.injEq, Prod.mk.injEq] at H
            obtain ⟨rfl, rfl⟩ := H
            go_wp2_with (first | ((with_reducible refine gate_callee (f := 7) rfl ?_); refine goesL_ (some 22) rfl rfl Tryd.func7 (by kernel_rfl) rfl #[.string a0, .string (⟨#[58, 58]⟩ : ByteArray)] rfl (by (try simp only [List.map_toArray, List.map_cons, List.map_nil]); first | done | rfl | (simp only [List.length_drop, List.length_take]; rfl)) ?_; (with_reducible refine (strings_Cut.calls a0 (⟨#[58, 58]⟩ : ByteArray) t101 t102 false _ A5.out (HGLen.out.below (by repeat (first | (with_reducible first | exact HB.out | apply below_alloc | apply pw_below_drewN | apply below_drew1) | exact HB.out)))).mono ?_); rintro e w' ⟨rfl, ⟨nd, rfl⟩⟩; refine ⟨_, rfl, ?_⟩) | ((with_reducible refine gate_callee (f := 8) rfl ?_); refine goesL_ (some 30) rfl rfl Tryd.func8 (by kernel_rfl) rfl #[.string a0, .bool true] rfl (by (try simp only [List.map_toArray, List.map_cons, List.map_nil]); first | done | rfl | (simp only [List.length_drop, List.length_take]; rfl)) ?_; (with_reducible refine (impl_groups.calls kj1 a0 true t104 false _ A28.out (HGLen.out.below (by repeat (first | (with_reducible first | exact HB.out | apply below_alloc | apply pw_below_drewN | apply below_drew1) | exact HB.out))) (HGE.out.below (by repeat (first | (with_reducible first | exact HB.out | apply below_alloc | apply pw_below_drewN | apply below_drew1) | exact HB.out)))).mono ?_); rintro e w33 ⟨rfl, hb⟩; refine ⟨_, rfl, ?_⟩; have n0_ := Aside0.mk (below_step (by repeat (first | (with_reducible first | exact HB.out | apply below_alloc | apply pw_below_drewN | apply below_drew1) | exact HB.out)) hb); clear HB; have HB := n0_; clear n0_; (try clear hb); (try clear hb2); (try clear hk); (try clear hi)))
            go_ret2
            exact ⟨by first | rfl | (simp [errW_none, errW_some] <;> rfl) | (simp [*, errW_none, errW_some] <;> rfl), by repeat (first | (with_reducible first | exact HB.out | apply below_alloc | apply pw_below_drewN | apply below_drew1) | exact HB.out)⟩

end Go.Proofs.YtlekdblkfidciaaDoor.F
namespace Go.Proofs.YtlekdblkfidciaaDoor.F
open Go Go.Shelf Go.RowKit Go.Proofs.YtlekdblkfidciaaDoorW.PrintWords Go.Proofs.YtlekdblkfidciaaDoorW.PrintLast Go.Proofs.YtlekdblkfidciaaDoorW.PrintMore
attribute [local go_sem] max2_int min2_int max_two min_two max_three min_three max_four min_four   -- for this text's walks alone
set_option linter.unusedVariables false
set_option linter.unusedSimpArgs false

/-! ### laws_FnExactReadV6: function 3 -/
def laws_FnExactReadV6.f (k : Nat) (a0 : ByteArray) : Option (Bool) := if (a0.size : Int) > 1048576 then (some true) else ((spec_ReadV6.f k a0).bind fun bt101 => ((impl_ReadV6.f k a0).bind fun bt103 => (if bt103.1.toList = bt101.1.toList then (if bt103.2 = bt101.2 then (some true) else (some false)) else (some false))))
theorem laws_FnExactReadV6.mono : ∀ a0 k, LeO (laws_FnExactReadV6.f k a0) (laws_FnExactReadV6.f (k + 1) a0) := by
  intro a0 k
  unfold laws_FnExactReadV6.f
  repeat' first
      | (with_reducible exact impl_ReadV6.mono _ _)
      | (with_reducible exact spec_ReadV6.mono _ _)
      | (with_reducible exact LeO.refl _)
      | (with_reducible exact LeO.none _)
      | (with_reducible refine LeO.ite ?_ ?_)
      | (with_reducible refine LeO.bind ?_ (fun _ => ?_))
      | exact impl_ReadV6.mono _ _
      | exact spec_ReadV6.mono _ _
      | exact LeO.none _
      | refine LeO.ite ?_ ?_
      | refine LeO.bind ?_ (fun _ => ?_)
set_option maxHeartbeats 8000000 in
set_option maxRecDepth 100000 in
theorem laws_FnExactReadV6.calls (k : Nat) (a0 : ByteArray) (r : Bool) (w : World) (h : laws_FnExactReadV6.f k a0 = some r) (hGLen : GlobLen w) (hGE : GlobE w) :
    Calls Tryd.prog 3 #[.string a0] w fun e w' => e = .returned (.bool r) ∧ Below w.heap.size w w' := by
  have HGLen := Aside0.mk hGLen
  clear hGLen
  have HGE := Aside0.mk hGE
  clear hGE
  have HB := Aside0.mk (Below.refl w.heap.size w)
  have H : (if (a0.size : Int) > 1048576 then (some true) else ((spec_ReadV6.f k a0).bind fun bt101 => ((impl_ReadV6.f k a0).bind fun bt103 => (if bt103.1.toList = bt101.1.toList then (if bt103.2 = bt101.2 then (some true) else (some false)) else (some false))))) = some r := h
  clear h
  by_cases c2 : (a0.size : Int) > 1048576
  · rw [if_pos c2] at H
    have c2b0 : decide (1048576 < (a0.size : Int)) = true := decide_eq_true c2
    have c2b1 : decide (1048576 < a0.size) = true := decide_eq_true (by omega)
    clear c2
    obtain rfl := Option.some.inj H
    go_enter Tryd.func3, Tryd.ntmps3
    go_wp2
    go_ret
    exact ⟨by first | rfl | (simp [errW_none, errW_some] <;> rfl) | (simp [*, errW_none, errW_some] <;> rfl), by repeat (first | (with_reducible first | exact HB.out | apply below_alloc | apply pw_below_drewN | apply below_drew1) | exact HB.out)⟩
  · rw [if_neg c2] at H
    have c2b0 : decide (1048576 < (a0.size : Int)) = false := decide_eq_false c2
    have c2b1 : decide (1048576 < a0.size) = false := decide_eq_false (by omega)
    clear c2
    replace H := Option.bind_eq_some_iff.mp H
    obtain ⟨⟨t101, t102⟩, A30, H⟩ := H
    replace H : ((impl_ReadV6.f k a0).bind fun bt103 => (if bt103.1.toList = t101.toList then (if bt103.2 = t102 then (some true) else (some false)) else (some false))) = some r := H
    have A3 := Aside0.mk A30
    clear A30
    replace H := Option.bind_eq_some_iff.mp H
    obtain ⟨⟨t103, t104⟩, A40, H⟩ := H
    replace H : (if t103.toList = t101.toList then (if t104 = t102 then (some true) else (some false)) else (some false)) = some r := H
    have A4 := Aside0.mk A40
    clear A40
    by_cases c5 : t103.toList = t101.toList
    · rw [if_pos c5] at H
      have c5b0 : (t103.toList == t101.toList) = true := beq_iff_eq.mpr c5
      have c5b1 : (t103.toList != t101.toList) = false := bne_eq_false_iff_eq.mpr c5
      clear c5
      by_cases c6 : t104 = t102
      · rw [if_pos c6] at H
        have c6b0 : (t104 == t102) = true := beq_iff_eq.mpr c6
        have c6b1 : (t104 != t102) = false := bne_eq_false_iff_eq.mpr c6
        clear c6
        obtain rfl := Option.some.inj H
        go_enter Tryd.func3, Tryd.ntmps3
        go_wp2_with (first | ((with_reducible refine gate_callee (f := 4) rfl ?_); refine goesL_ (some 12) rfl rfl Tryd.func4 (by kernel_rfl) rfl #[.string a0] rfl (by (try simp only [List.map_toArray, List.map_cons, List.map_nil]); first | done | rfl | (simp only [List.length_drop, List.length_take]; rfl)) ?_; (with_reducible refine (spec_ReadV6.calls k a0 t101 t102 _ A3.out).mono ?_); rintro e w7 ⟨rfl, hb⟩; refine ⟨_, rfl, ?_⟩; have n0_ := Aside0.mk (below_step (by repeat (first | (with_reducible first | exact HB.out | apply below_alloc | apply pw_below_drewN | apply below_drew1) | exact HB.out)) hb); clear HB; have HB := n0_; clear n0_; (try clear hb); (try clear hb2); (try clear hk); (try clear hi)) | ((with_reducible refine gate_callee (f := 5) rfl ?_); refine goesL_ (some 17) rfl rfl Tryd.func5 (by kernel_rfl) rfl #[.string a0] rfl (by (try simp only [List.map_toArray, List.map_cons, List.map_nil]); first | done | rfl | (simp only [List.length_drop, List.length_take]; rfl)) ?_; (with_reducible refine (impl_ReadV6.calls k a0 t103 t104 _ A4.out (HGLen.out.below (by repeat (first | (with_reducible first | exact HB.out | apply below_alloc | apply pw_below_drewN | apply below_drew1) | exact HB.out))) (HGE.out.below (by repeat (first | (with_reducible first | exact HB.out | apply below_alloc | apply pw_below_drewN | apply below_drew1) | exact HB.out)))).mono ?_); rintro e w8 ⟨rfl, hb⟩; refine ⟨_, rfl, ?_⟩; have n0_ := Aside0.mk (below_step (by repeat (first | (with_reducible first | exact HB.out | apply below_alloc | apply pw_below_drewN | apply below_drew1) | exact HB.out)) hb); clear HB; have HB := n0_; clear n0_; (try clear hb); (try clear hb2); (try clear hk); (try clear hi)))
        go_ret
        exact ⟨by first | rfl | (simp [errW_none, errW_some] <;> rfl) | (simp [*, errW_none, errW_some] <;> rfl), by repeat (first | (with_reducible first | exact HB.out | apply below_alloc | apply pw_below_drewN | apply below_drew1) | exact HB.out)⟩
      · rw [if_neg c6] at H
        have c6b0 : (t104 == t102) = false := beq_eq_false_iff_ne.mpr c6
        have c6b1 : (t104 != t102) = true := bne_iff_ne.mpr c6
        obtain rfl := Option.some.inj H
        go_enter Tryd.func3, Tryd.ntmps3
        go_wp2_with (first | ((with_reducible refine gate_callee (f := 4) rfl ?_); refine goesL_ (some 12) rfl rfl Tryd.func4 (by kernel_rfl) rfl #[.string a0] rfl (by (try simp only [List.map_toArray, List.map_cons, List.map_nil]); first | done | rfl | (simp only [List.length_drop, List.length_take]; rfl)) ?_; (with_reducible refine (spec_ReadV6.calls k a0 t101 t102 _ A3.out).mono ?_); rintro e w9 ⟨rfl, hb⟩; refine ⟨_, rfl, ?_⟩; have n0_ := Aside0.mk (below_step (by repeat (first | (with_reducible first | exact HB.out | apply below_alloc | apply pw_below_drewN | apply below_drew1) | exact HB.out)) hb); clear HB; have HB := n0_; clear n0_; (try clear hb); (try clear hb2); (try clear hk); (try clear hi)) | ((with_reducible refine gate_callee (f := 5) rfl ?_); refine goesL_ (some 17) rfl rfl Tryd.func5 (by kernel_rfl) rfl #[.string a0] rfl (by (try simp only [List.map_toArray, List.map_cons, List.map_nil]); first | done | rfl | (simp only [List.length_drop, List.length_take]; rfl)) ?_; (with_reducible refine (impl_ReadV6.calls k a0 t103 t104 _ A4.out (HGLen.out.below (by repeat (first | (with_reducible first | exact HB.out | apply below_alloc | apply pw_below_drewN | apply below_drew1) | exact HB.out))) (HGE.out.below (by repeat (first | (with_reducible first | exact HB.out | apply below_alloc | apply pw_below_drewN | apply below_drew1) | exact HB.out)))).mono ?_); rintro e w10 ⟨rfl, hb⟩; refine ⟨_, rfl, ?_⟩; have n0_ := Aside0.mk (below_step (by repeat (first | (with_reducible first | exact HB.out | apply below_alloc | apply pw_below_drewN | apply below_drew1) | exact HB.out)) hb); clear HB; have HB := n0_; clear n0_; (try clear hb); (try clear hb2); (try clear hk); (try clear hi)))
        go_ret
        exact ⟨by first | rfl | (simp [errW_none, errW_some] <;> rfl) | (simp [*, errW_none, errW_some] <;> rfl), by repeat (first | (with_reducible first | exact HB.out | apply below_alloc | apply pw_below_drewN | apply below_drew1) | exact HB.out)⟩
    · rw [if_neg c5] at H
      have c5b0 : (t103.toList == t101.toList) = false := beq_eq_false_iff_ne.mpr c5
      have c5b1 : (t103.toList != t101.toList) = true := bne_iff_ne.mpr c5
      obtain rfl := Option.some.inj H
      go_enter Tryd.func3, Tryd.ntmps3
      go_wp2_with (first | ((with_reducible refine gate_callee (f := 4) rfl ?_); refine goesL_ (some 12) rfl rfl Tryd.func4 (by kernel_rfl) rfl #[.string a0] rfl (by (try simp only [List.map_toArray, List.map_cons, List.map_nil]); first | done | rfl | (simp only [List.length_drop, List.length_take]; rfl)) ?_; (with_reducible refine (spec_ReadV6.calls k a0 t101 t102 _ A3.out).mono ?_); rintro e w11 ⟨rfl, hb⟩; refine ⟨_, rfl, ?_⟩; have n0_ := Aside0.mk (below_step (by repeat (first | (with_reducible first | exact HB.out | apply below_alloc | apply pw_below_drewN | apply below_drew1) | exact HB.out)) hb); clear HB; have HB := n0_; clear n0_; (try clear hb); (try clear hb2); (try clear hk); (try clear hi)) | ((with_reducible refine gate_callee (f := 5) rfl ?_); refine goesL_ (some 17) rfl rfl Tryd.func5 (by kernel_rfl) rfl #[.string a0] rfl (by (try simp only [List.map_toArray, List.map_cons, List.map_nil]); first | done | rfl | (simp only [List.length_drop, List.length_take]; rfl)) ?_; (with_reducible refine (impl_ReadV6.calls k a0 t103 t104 _ A4.out (HGLen.out.below (by repeat (first | (with_reducible first | exact HB.out | apply below_alloc | apply pw_below_drewN | apply below_drew1) | exact HB.out))) (HGE.out.below (by repeat (first | (with_reducible first | exact HB.out | apply below_alloc | apply pw_below_drewN | apply below_drew1) | exact HB.out)))).mono ?_); rintro e w12 ⟨rfl, hb⟩; refine ⟨_, rfl, ?_⟩; have n0_ := Aside0.mk (below_step (by repeat (first | (with_reducible first | exact HB.out | apply below_alloc | apply pw_below_drewN | apply below_drew1) | exact HB.out)) hb); clear HB; have HB := n0_; clear n0_; (try clear hb); (try clear hb2); (try clear hk); (try clear hi)))
      go_ret
      exact ⟨by first | rfl | (simp [errW_none, errW_some] <;> rfl) | (simp [*, errW_none, errW_some] <;> rfl), by repeat (first | (with_reducible first | exact HB.out | apply below_alloc | apply pw_below_drewN | apply below_drew1) | exact HB.out)⟩

/-- THE ONE PURE STATEMENT of laws_FnExactReadV6: yours. -/
def laws_FnExactReadV6.Pure : Prop := ∀ (a0 : ByteArray), a0.size ≤ 140737488351232 → ∃ k, laws_FnExactReadV6.f k a0 = some true
theorem laws_FnExactReadV6.walk (P : laws_FnExactReadV6.Pure) (a0 : ByteArray) (w : World) (w0 : a0.size ≤ 140737488351232) (hGLen : GlobLen w) (hGE : GlobE w) :
    Calls Tryd.prog 3 #[.string a0] w fun e w' => e = .returned (.bool true) ∧ Below w.heap.size w w' := by
  obtain ⟨k, h⟩ := P a0 w0
  refine (laws_FnExactReadV6.calls k a0 true w h hGLen hGE).mono ?_
  rintro e w' ⟨rfl, hd⟩
  exact ⟨rfl, hd⟩

end Go.Proofs.YtlekdblkfidciaaDoor.F
namespace Go.Proofs.YtlekdblkfidciaaDoor.Base
open Go.RowKit Go.Proofs.YtlekdblkfidciaaDoorW.PrintWords Go.Proofs.YtlekdblkfidciaaDoorW.PrintMore

theorem w64 {x : Int} (h0 : -9223372036854775808 ≤ x) (h1 : x ≤ 9223372036854775807) : wrap64 x = x := by
  unfold wrap64
  omega

def L (s : ByteArray) : List UInt8 := s.data.toList
def B (l : List UInt8) : ByteArray := ⟨l.toArray⟩
theorem L_B (l : List UInt8) : L (B l) = l := by simp [L, B]
theorem B_L (s : ByteArray) : B (L s) = s := by simp [L, B]
theorem L_inj {a b : ByteArray} (h : L a = L b) : a = b := by rw [← B_L a, ← B_L b, h]
theorem L_iff {a b : ByteArray} : L a = L b ↔ a = b := ⟨L_inj, fun h => by rw [h]⟩
theorem size_L (s : ByteArray) : s.size = (L s).length := by simp [L]
theorem toL (s : ByteArray) : s.toList = L s := Lib.toList_data s
theorem L_extract (s : ByteArray) (i j : Nat) : L (s.extract i j) = ((L s).drop i).take (j - i) := by
  simp [L, ByteArray.data_extract]
theorem L_append (a b : ByteArray) : L (a ++ b) = L a ++ L b := by
  simp [L, ByteArray.data_append]
theorem bt_L (s : ByteArray) (i : Int) : bt s i = (((L s).getD i.toNat 0).toNat : Int) := by
  unfold bt
  split
  · rename_i h
    have h' : i.toNat < (L s).length := by rw [← size_L]; exact h
    rw [List.getD_eq_getElem?_getD, List.getElem?_eq_getElem h']
    rfl
  · rename_i h
    have h' : (L s).length ≤ i.toNat := by rw [← size_L]; omega
    rw [List.getD_eq_getElem?_getD, List.getElem?_eq_none h']
    rfl
theorem bt_mid {x : ByteArray} {p : List UInt8} {c : UInt8} {r : List UInt8} (h : L x = p ++ c :: r) {i : Int} (hi : i = (p.length : Int)) : bt x i = (c.toNat : Int) := by
  rw [bt_L, h, hi]
  simp [List.getD_eq_getElem?_getD]
theorem bt_cons {x : ByteArray} {c : UInt8} {r : List UInt8} (h : L x = c :: r) : bt x 0 = (c.toNat : Int) := bt_mid (p := []) h rfl
theorem L_strOfNums (xs : List Int) : L (strOfNums xs) = xs.map fun n => UInt8.ofNat n.toNat := by simp [L, strOfNums]
theorem byte_le (c : UInt8) : (c.toNat : Int) ≤ 255 := by have := c.toNat_lt; omega
theorem byte_id (c : UInt8) : UInt8.ofNat ((c.toNat : Int)).toNat = c := by simp

theorem drop_len {α : Type} (p t : List α) (k : Nat) : (p ++ t).drop (p.length + k) = t.drop k := by
  rw [List.drop_append, List.drop_eq_nil_of_le (by omega), List.nil_append, Nat.add_sub_cancel_left]
theorem getD_len {α : Type} (p t : List α) (k : Nat) (d : α) : (p ++ t).getD (p.length + k) d = t.getD k d := by
  simp [List.getD_eq_getElem?_getD, List.getElem?_append_right]

/-- The labels of a name's bytes; none: they are no name (but for the limit on the whole). -/
def labs : List UInt8 → Option (List ByteArray)
  | [] => none
  | c :: r => if c.toNat = 0 then (if r = [] then some [] else none) else if 63 < c.toNat then none else if r.length < c.toNat then none else (labs (r.drop c.toNat)).map (B (r.take c.toNat) :: ·)
  termination_by l => l.length
  decreasing_by simp; omega

/-- The labels of a name. -/
def names (l : List UInt8) : Option (List ByteArray) := if l.length < 1 ∨ 255 < l.length then none else labs l

/-- What a cut in labels answers that had come to some. -/
def res (acc : List ByteArray) : Option (List ByteArray) → List ByteArray × Bool
  | none => ([], false)
  | some ls => (acc ++ ls, true)
theorem res_map (acc : List ByteArray) (b : ByteArray) (o : Option (List ByteArray)) : res acc (o.map (b :: ·)) = res (acc ++ [b]) o := by
  cases o <;> simp [res]

/-- What the other cut in labels leaves where it fails. -/
def jk (acc : List ByteArray) : List UInt8 → List ByteArray
  | [] => []
  | c :: r => if c.toNat = 0 then acc else if 63 < c.toNat then [] else if r.length < c.toNat then [] else jk (acc ++ [B (r.take c.toNat)]) (r.drop c.toNat)
  termination_by l => l.length
  decreasing_by simp; omega
def res2 (acc : List ByteArray) (l : List UInt8) : List ByteArray × Bool := match labs l with
  | none => (jk acc l, false)
  | some ls => (acc ++ ls, true)
theorem labs_count : ∀ (n : Nat) (l : List UInt8), l.length ≤ n → ∀ ls, labs l = some ls → ls.length + 1 ≤ l.length := by
  intro n
  induction n with
  | zero =>
    intro l hl ls h
    obtain rfl : l = [] := List.length_eq_zero_iff.1 (by omega)
    simp [labs] at h
  | succ n ih =>
    intro l hl ls h
    cases l with
    | nil => simp [labs] at h
    | cons c r =>
      simp only [List.length_cons] at hl ⊢
      rw [labs] at h
      by_cases h0 : c.toNat = 0
      · rw [if_pos h0] at h
        by_cases hr : r = []
        · rw [if_pos hr] at h
          obtain rfl := Option.some.inj h
          simp
        · rw [if_neg hr] at h
          cases h
      · rw [if_neg h0] at h
        by_cases h63 : 63 < c.toNat
        · rw [if_pos h63] at h
          cases h
        · rw [if_neg h63] at h
          by_cases hl2 : r.length < c.toNat
          · rw [if_pos hl2] at h
            cases h
          · rw [if_neg hl2] at h
            obtain ⟨t, ht, rfl⟩ := Option.map_eq_some_iff.1 h
            have := ih (r.drop c.toNat) (by simp; omega) t ht
            simp at this ⊢
            omega
theorem names_count {l : List UInt8} {ls : List ByteArray} (h : names l = some ls) : ls.length ≤ 254 := by
  unfold names at h
  split at h
  · cases h
  · have := labs_count _ l (Nat.le_refl _) ls h
    omega
end Go.Proofs.YtlekdblkfidciaaDoor.Base
namespace Go.Proofs.YtlekdblkfidciaaDoor.Base
open Go.RowKit Go.Proofs.YtlekdblkfidciaaDoorW.PrintWords Go.Proofs.YtlekdblkfidciaaDoorW.PrintLast
def dig (c : UInt8) : Bool := decide (48 ≤ c.toNat) && decide (c.toNat ≤ 57)
theorem dig_iff (c : UInt8) : dig c = true ↔ 48 ≤ (c.toNat : Int) ∧ (c.toNat : Int) ≤ 57 := by unfold dig; simp; omega
def dec (n : Int) : List UInt8 → Option Int
  | [] => some n
  | c :: r => if dig c then dec (n * 10 + ((c.toNat : Int) - 48)) r else none
def dnum (l : List UInt8) (m : Nat) : Option Int := if l.length < 1 ∨ m < l.length then none else dec 0 l
theorem dec_bound : ∀ (l : List UInt8) (n m : Int) (p : Nat), dec n l = some m → 0 ≤ n → n < 10 ^ p → 0 ≤ m ∧ m < 10 ^ (p + l.length) := by
  intro l
  induction l with
  | nil => intro n m p h h0 h1; cases h; exact ⟨h0, by simpa using h1⟩
  | cons c r ih =>
    intro n m p h h0 h1
    rw [dec] at h
    by_cases hd : dig c
    · rw [if_pos hd] at h
      have hc := (dig_iff c).1 hd
      have := ih _ m (p + 1) h (by omega) (by rw [Int.pow_succ]; omega)
      rw [List.length_cons, show p + (r.length + 1) = p + 1 + r.length from by omega]
      exact this
    · rw [if_neg hd] at h; cases h
theorem dec_all : ∀ (l : List UInt8) (n m : Int), dec n l = some m → ∀ c ∈ l, dig c = true := by
  intro l
  induction l with
  | nil => intro n m _ c hc; cases hc
  | cons c r ih =>
    intro n m h x hx
    rw [dec] at h
    by_cases hd : dig c
    · rw [if_pos hd] at h
      rcases List.mem_cons.1 hx with rfl | hx
      · exact hd
      · exact ih _ _ h x hx
    · rw [if_neg hd] at h; cases h
theorem dnum_bound {l : List UInt8} {m : Nat} {n : Int} (h : dnum l m = some n) (hm : m ≤ 10) : 0 ≤ n ∧ n ≤ 9999999999 := by
  unfold dnum at h
  split at h
  · cases h
  · rename_i hl
    have hb := dec_bound l 0 n 0 h (by decide) (by decide)
    refine ⟨hb.1, ?_⟩
    have h2 := hb.2
    have : (10 : Int) ^ (0 + l.length) ≤ 10000000000 := by
      rcases (by omega : l.length = 0 ∨ l.length = 1 ∨ l.length = 2 ∨ l.length = 3 ∨ l.length = 4 ∨ l.length = 5 ∨ l.length = 6 ∨ l.length = 7 ∨ l.length = 8 ∨ l.length = 9 ∨ l.length = 10) with e | e | e | e | e | e | e | e | e | e | e <;> rw [e] <;> decide
    omega
def unit (c : Nat) : Int := if c = 115 ∨ c = 83 then 1 else if c = 109 ∨ c = 77 then 60 else if c = 104 ∨ c = 72 then 3600 else if c = 100 ∨ c = 68 then 86400 else if c = 119 ∨ c = 87 then 604800 else 0
theorem unit_bound (c : Nat) : 0 ≤ unit c ∧ unit c ≤ 604800 := by unfold unit; repeat' split <;> omega
theorem unit_big (c : Nat) (h : unit c ≠ 0) : 65 ≤ c := by unfold unit at h; repeat' split at h <;> omega
/-- A text of numbers with units: the sum so far, the digits that stand open, whether a unit has been read. -/
def ttl (sum : Int) (pend : List UInt8) (started : Bool) : List UInt8 → Int × Int
  | [] => if pend = [] ∧ started = true then (if sum > 2147483647 then (0, 18) else (sum, 0)) else (0, 18)
  | c :: r => if dig c then ttl sum (pend ++ [c]) started r else match dnum pend 10 with
    | none => (0, 18)
    | some n => if unit c.toNat = 0 then (0, 18) else ttl (sum + n * unit c.toNat) [] true r
theorem ttl_digits : ∀ (l p : List UInt8) (s : Int) (b : Bool), (∀ c ∈ l, dig c = true) → p ++ l ≠ [] → ttl s p b l = (0, 18) := by
  intro l
  induction l with
  | nil => intro p s b _ h; rw [ttl, if_neg (fun e => h (by simp [e.1]))]
  | cons c r ih =>
    intro p s b h _
    rw [ttl, if_pos (h c (by simp))]
    exact ih _ _ _ (fun x hx => h x (by simp [hx])) (by simp)
def ttlAll (x : ByteArray) : Int × Int := if 60 < x.size then (0, 18) else match dnum (L x) 10 with | some n => if n ≤ 2147483647 then (n, 0) else (0, 18) | none => ttl 0 [] false (L x)
end Go.Proofs.YtlekdblkfidciaaDoor.Base
namespace Go.Proofs.YtlekdblkfidciaaDoor.Base
open Go.RowKit Go.Proofs.YtlekdblkfidciaaDoorW.PrintWords Go.Proofs.YtlekdblkfidciaaDoorW.PrintLast
def glue (q : List UInt8) : List (List UInt8) → List (List UInt8)
  | [] => [q]
  | h :: t => (q ++ h) :: t
def cut (c : UInt8) : List UInt8 → List (List UInt8)
  | [] => [[]]
  | b :: l => if b = c then [] :: cut c l else glue [b] (cut c l)
theorem glue_glue (p q : List UInt8) (x : List (List UInt8)) : glue p (glue q x) = glue (p ++ q) x := by
  cases x <;> simp [glue]
theorem cut_ne (c : UInt8) (l : List UInt8) : ∃ h t, cut c l = h :: t := by
  cases l with
  | nil => exact ⟨[], [], rfl⟩
  | cons b l =>
    rw [cut]
    split
    · exact ⟨_, _, rfl⟩
    · cases cut c l <;> exact ⟨_, _, rfl⟩
theorem glue_nil (c : UInt8) (l : List UInt8) : glue [] (cut c l) = cut c l := by
  obtain ⟨h, t, e⟩ := cut_ne c l
  rw [e, glue, List.nil_append]
theorem cut_length (c : UInt8) : ∀ l : List UInt8, (cut c l).length = l.count c + 1 := by
  intro l
  induction l with
  | nil => rfl
  | cons b l ih =>
    obtain ⟨h, t, e⟩ := cut_ne c l
    rw [cut]
    by_cases hb : b = c
    · subst hb
      rw [if_pos rfl, List.length_cons, ih]
      simp
    · rw [if_neg hb, List.count_cons_of_ne (by simpa using hb), ← ih, e]
      simp [glue]
theorem splitK_cut (c : UInt8) : ∀ l : List UInt8, Lib.splitK [c] 0 (Lib.count l [c]) l = cut c l := by
  intro l
  induction l with
  | nil => rw [Lib.count_miss (by simp [Lib.index])]; rfl
  | cons b l ih =>
    rw [cut]
    by_cases hb : b = c
    · subst hb
      have hix : Lib.index (b :: l) [b] = 0 := by rw [Lib.index]; simp [List.isPrefixOf]
      rw [if_pos rfl, Lib.count_cons_eq, Nat.add_comm, Lib.splitK, hix, if_neg (by decide)]
      simpa using ih
    · rw [if_neg hb, Lib.count_cons_ne b c l hb]
      have hp : ([c] : List UInt8).isPrefixOf (b :: l) = false := by simp [List.isPrefixOf, Ne.symm hb]
      have hix : Lib.index (b :: l) [c] = if Lib.index l [c] == -1 then -1 else Lib.index l [c] + 1 := by rw [Lib.index, hp]; simp
      rw [← ih]
      cases hk : Lib.count l [c] with
      | zero => rfl
      | succ k =>
        have hm : Lib.index l [c] ≠ -1 := fun e => by rw [Lib.count_miss e] at hk; cases hk
        have hge := Lib.index_ge l [c]
        obtain ⟨j, hj⟩ : ∃ j : Nat, Lib.index l [c] = j := ⟨(Lib.index l [c]).toNat, by omega⟩
        have hix' : Lib.index (b :: l) [c] = ((j + 1 : Nat) : Int) := by rw [hix, if_neg (fun e => hm (beq_iff_eq.1 e)), hj]; omega
        rw [Lib.splitK, Lib.splitK, hix', hj, if_neg (by rw [beq_iff_eq]; omega), if_neg (by rw [beq_iff_eq]; omega)]
        simp [glue]
theorem split_cut (a : ByteArray) (c : UInt8) : Lib.splitB ⟨#[c]⟩ 0 (Lib.countB a ⟨#[c]⟩) a = (cut c (L a)).map B := by
  have h := Lib.splitB_data ⟨#[c]⟩ 0 (Lib.countB a ⟨#[c]⟩) a
  have h2 := splitK_cut c (L a)
  have e : (Lib.splitB ⟨#[c]⟩ 0 (Lib.countB a ⟨#[c]⟩) a).map L = cut c (L a) := h.trans h2
  rw [← e, List.map_map]
  symm
  exact (List.map_congr_left fun x _ => B_L x).trans (List.map_id _)
end Go.Proofs.YtlekdblkfidciaaDoor.Base
namespace Go.Proofs.YtlekdblkfidciaaDoor.Base
open Go.RowKit Go.Proofs.YtlekdblkfidciaaDoorW.PrintWords Go.Proofs.YtlekdblkfidciaaDoorW.PrintLast
/-- The decimal digits of a number below a thousand. -/
def dtext (n : Int) : List UInt8 := if n < 10 then [UInt8.ofNat (48 + n).toNat] else if n < 100 then [UInt8.ofNat (48 + n / 10).toNat, UInt8.ofNat (48 + n % 10).toNat] else [UInt8.ofNat (48 + n / 100).toNat, UInt8.ofNat (48 + n / 10 % 10).toNat, UInt8.ofNat (48 + n % 10).toNat]
def zeroLed (x : List UInt8) : Prop := 1 < x.length ∧ x.head? = some 48
instance (x : List UInt8) : Decidable (zeroLed x) := by unfold zeroLed; infer_instance
/-- One number of an address. -/
def v4 (x : List UInt8) : Option Int := match dnum x 3 with
  | none => none
  | some n => if n ≤ 255 then (if zeroLed x then none else some n) else none
def v4s : List (List UInt8) → List Int → Option (List Int)
  | [], acc => some acc
  | x :: r, acc => match v4 x with
    | none => none
    | some n => v4s r (acc ++ [n])
def v4res : Option (List Int) → ByteArray × Int
  | none => (⟨#[]⟩, 7)
  | some ns => (strOfNums ns, 0)
/-- What an address's text answers. -/
def v4all (l : List UInt8) : ByteArray × Int := if (cut 46 l).length = 4 then v4res (v4s (cut 46 l) []) else (⟨#[]⟩, 7)
theorem ofNat_is {m : Int} {a : UInt8} (h : m = (a.toNat : Int)) : UInt8.ofNat m.toNat = a := by rw [h]; exact byte_id a
theorem dnum3 {x : List UInt8} {n : Int} (h : dnum x 3 = some n) : 0 ≤ n ∧ n < 1000 ∧ (dtext n = x ↔ ¬ zeroLed x) := by
  unfold dnum at h
  split at h
  · cases h
  rename_i hl
  match x, hl, h with
  | [], hl, _ => simp at hl
  | [a], _, h =>
    rw [dec] at h
    split at h
    · rename_i ha
      have ha := (dig_iff a).1 ha
      rw [dec] at h
      have hn := Option.some.inj h
      refine ⟨by omega, by omega, ⟨fun _ e => absurd e.1 (by simp), fun _ => ?_⟩⟩
      unfold dtext
      rw [if_pos (by omega), ofNat_is (a := a) (by omega)]
    · cases h
  | [a, b], _, h =>
    rw [dec] at h
    split at h
    · rename_i ha
      have ha := (dig_iff a).1 ha
      rw [dec] at h
      split at h
      · rename_i hb
        have hb := (dig_iff b).1 hb
        rw [dec] at h
        have hn := Option.some.inj h
        refine ⟨by omega, by omega, ?_⟩
        unfold dtext zeroLed
        by_cases h0 : a = 48
        · subst h0
          have e48 : ((48 : UInt8).toNat : Int) = 48 := rfl
          rw [if_pos (by omega)]
          simp
        · have h0' : (a.toNat : Int) ≠ 48 := fun e => h0 (UInt8.toNat_inj.1 (by have : ((48 : UInt8).toNat : Int) = 48 := rfl; omega))
          rw [if_neg (by omega), if_pos (by omega), ofNat_is (a := a) (by omega), ofNat_is (a := b) (by omega)]
          simp [h0]
      · cases h
    · cases h
  | [a, b, c], _, h =>
    rw [dec] at h
    split at h
    · rename_i ha
      have ha := (dig_iff a).1 ha
      rw [dec] at h
      split at h
      · rename_i hb
        have hb := (dig_iff b).1 hb
        rw [dec] at h
        split at h
        · rename_i hc
          have hc := (dig_iff c).1 hc
          rw [dec] at h
          have hn := Option.some.inj h
          refine ⟨by omega, by omega, ?_⟩
          unfold dtext zeroLed
          by_cases h0 : a = 48
          · subst h0
            have e48 : ((48 : UInt8).toNat : Int) = 48 := rfl
            by_cases h1 : n < 10
            · rw [if_pos h1]
              simp
            · rw [if_neg h1, if_pos (by omega)]
              simp
          · have h0' : (a.toNat : Int) ≠ 48 := fun e => h0 (UInt8.toNat_inj.1 (by have : ((48 : UInt8).toNat : Int) = 48 := rfl; omega))
            rw [if_neg (by omega), if_neg (by omega), ofNat_is (a := a) (by omega), ofNat_is (a := b) (by omega), ofNat_is (a := c) (by omega)]
            simp [h0]
        · cases h
      · cases h
    · cases h
  | a :: b :: c :: d :: r, hl, _ => simp at hl
theorem v4_len {x : List UInt8} {n : Int} (h : v4 x = some n) : x.length ≤ 3 := by
  unfold v4 at h
  cases hd : dnum x 3 with
  | none => rw [hd] at h; cases h
  | some m =>
    unfold dnum at hd
    split at hd
    · cases hd
    · omega
end Go.Proofs.YtlekdblkfidciaaDoor.Base
namespace Go.Proofs.YtlekdblkfidciaaDoor.Pure
open Go.RowKit Go.Proofs.YtlekdblkfidciaaDoor.F Go.Proofs.YtlekdblkfidciaaDoor.Base Go.Proofs.YtlekdblkfidciaaDoorW.PrintWords Go.Proofs.YtlekdblkfidciaaDoorW.PrintLast Go.Proofs.YtlekdblkfidciaaDoorW.PrintMore
set_option linter.unusedVariables false
set_option linter.unusedSimpArgs false
-- base: BaseTTL
theorem impl_decimal_l0 (x : ByteArray) (hx : x.size ≤ 10) : ∀ (l p : List UInt8) (n : Int) (k : Nat), L x = p ++ l → 0 ≤ n → n < 10 ^ p.length → l.length < k → impl_decimal.l0 k x n (p.length : Int) = some ((dec n l).getD (-1)) := by
  intro l
  induction l with
  | nil =>
    intro p n k h h0 h1 hk
    obtain ⟨k, rfl⟩ : ∃ m, k = m + 1 := ⟨k - 1, by simp at hk; omega⟩
    have hz : x.size = p.length := by rw [size_L, h]; simp
    rw [impl_decimal.l0, if_neg (by omega)]
    rfl
  | cons c r ih =>
    intro p n k h h0 h1 hk
    obtain ⟨k, rfl⟩ : ∃ m, k = m + 1 := ⟨k - 1, by simp at hk; omega⟩
    have hz : x.size = p.length + (r.length + 1) := by rw [size_L, h]; simp
    have hc := byte_le c
    have hp : (10 : Int) ^ p.length ≤ 1000000000 := by
      rcases (by omega : p.length = 0 ∨ p.length = 1 ∨ p.length = 2 ∨ p.length = 3 ∨ p.length = 4 ∨ p.length = 5 ∨ p.length = 6 ∨ p.length = 7 ∨ p.length = 8 ∨ p.length = 9) with e | e | e | e | e | e | e | e | e | e <;> rw [e] <;> decide
    rw [impl_decimal.l0, if_pos (by omega), if_pos (by omega), bt_mid h rfl, dec]
    by_cases hd : dig c
    · have hr := (dig_iff c).1 hd
      rw [if_pos hd, if_neg (by omega), if_neg (by omega), Int.emod_eq_of_lt (a := (c.toNat : Int) - 48) (b := 256) (by omega) (by omega), w64 (x := n * 10) (by omega) (by omega), w64 (x := n * 10 + ((c.toNat : Int) - 48)) (by omega) (by omega), w64 (x := (p.length : Int) + 1) (by omega) (by omega)]
      have e : (p.length : Int) + 1 = ((p ++ [c]).length : Int) := by simp
      rw [e]
      exact ih (p ++ [c]) _ k (by rw [h]; simp) (by omega) (by rw [List.length_append, List.length_singleton, Int.pow_succ]; omega) (by simp at hk; omega)
    · have hr : ¬ (48 ≤ (c.toNat : Int) ∧ (c.toNat : Int) ≤ 57) := fun e => hd ((dig_iff c).2 e)
      rw [if_neg hd]
      by_cases h1 : (c.toNat : Int) < 48
      · rw [if_pos h1]; rfl
      · rw [if_neg h1, if_pos (by omega)]; rfl
theorem impl_decimal_eq (x : ByteArray) (m : Int) (m' : Nat) (hm : m = (m' : Int)) (hm2 : m' ≤ 10) (k : Nat) (hk : 13 ≤ k) : impl_decimal.f k x m = some ((dnum (L x) m').getD (-1)) := by
  subst hm
  obtain ⟨k, rfl⟩ : ∃ j, k = j + 1 := ⟨k - 1, by omega⟩
  have hs := size_L x
  unfold impl_decimal.f dnum
  by_cases h1 : (x.size : Int) < 1
  · rw [if_pos h1, impl_decimal.j0, if_pos rfl, if_pos (by omega)]; rfl
  · rw [if_neg h1]
    by_cases h2 : (x.size : Int) > (m' : Int)
    · rw [decide_eq_true h2, impl_decimal.j0, if_pos rfl, if_pos (by omega)]; rfl
    · rw [decide_eq_false h2, impl_decimal.j0, if_neg (by decide), if_neg (by omega)]
      have := impl_decimal_l0 x (by omega) (L x) [] 0 k rfl (by decide) (by decide) (by omega)
      simpa using this

end Go.Proofs.YtlekdblkfidciaaDoor.Pure
namespace Go.Proofs.YtlekdblkfidciaaDoor.Pure
open Go.RowKit Go.Proofs.YtlekdblkfidciaaDoor.F Go.Proofs.YtlekdblkfidciaaDoor.Base Go.Proofs.YtlekdblkfidciaaDoorW.PrintWords Go.Proofs.YtlekdblkfidciaaDoorW.PrintLast Go.Proofs.YtlekdblkfidciaaDoorW.PrintMore
set_option linter.unusedVariables false
set_option linter.unusedSimpArgs false
-- base: BaseV4
theorem impl_ReadV4_l0 (pl : List (List UInt8)) (hpl : pl.length = 4) : ∀ (r : List (List UInt8)) (i k : Nat) (acc : List Int), pl.drop i = r → i + r.length = 4 → acc.length = i → 20 + r.length ≤ k →
    impl_ReadV4.l0 k acc (pl.map B) 4 (i : Int) = some (v4res (v4s r acc)) := by
  intro r
  induction r with
  | nil =>
    intro i k acc h1 h2 h3 hk
    obtain ⟨k, rfl⟩ : ∃ m, k = m + 1 := ⟨k - 1, by omega⟩
    simp only [List.length_nil] at h2
    rw [impl_ReadV4.l0, if_neg (by omega)]
    rfl
  | cons x r ih =>
    intro i k acc h1 h2 h3 hk
    obtain ⟨k, rfl⟩ : ∃ m, k = m + 1 := ⟨k - 1, by omega⟩
    simp only [List.length_cons] at h2 hk
    have hrd : rdOf ByteArray.empty (pl.map B) (i : Int) = B x := by
      rw [rdOf, List.getD_eq_getElem?_getD, Int.toNat_natCast, List.getElem?_map]
      have : pl[i]? = (pl.drop i)[0]? := by rw [List.getElem?_drop, Nat.add_zero]
      rw [this, h1]
      rfl
    have hd1 : pl.drop (i + 1) = r := by rw [← List.drop_drop, h1]; rfl
    have hsz : (B x).size = x.length := by rw [size_L, L_B]
    rw [impl_ReadV4.l0, if_pos (by omega), if_pos (by omega), if_pos (by rw [List.length_map]; omega), hrd, impl_decimal_eq _ 3 3 rfl (by omega) k (by omega), Option.bind_some, L_B, v4s, v4, w64 (x := (i : Int) + 1) (by omega) (by omega)]
    cases hd : dnum x 3 with
    | none => rfl
    | some n =>
      obtain ⟨g1, g2, g3⟩ := dnum3 hd
      simp only [Option.getD_some]
      rw [if_neg (by omega)]
      by_cases h5 : n ≤ 255
      · rw [if_neg (by omega), if_pos h5, hsz]
        have key := ih (i + 1) k (acc ++ [n]) hd1 (by omega) (by simp [h3]) (by omega)
        rw [show ((i + 1 : Nat) : Int) = (i : Int) + 1 from by omega] at key
        have hmod : n % 256 = n := by omega
        rw [hmod]
        by_cases hl : (x.length : Int) > 1
        · have hne : ∃ a t, x = a :: t := by cases x with | nil => simp at hl | cons a t => exact ⟨a, t, rfl⟩
          obtain ⟨a, t, rfl⟩ := hne
          have hb : bt (B (a :: t)) 0 = (a.toNat : Int) := bt_cons (L_B _)
          rw [if_pos hl, if_pos (by omega), hb]
          by_cases ha : (a.toNat : Int) = 48
          · have ha' : a = 48 := UInt8.toNat_inj.1 (by have : ((48 : UInt8).toNat : Int) = 48 := rfl; omega)
            rw [if_pos ha, if_pos (show zeroLed (a :: t) from ⟨by omega, by rw [ha']; rfl⟩)]
            rfl
          · have hz : ¬ zeroLed (a :: t) := fun e => ha (by have := e.2; simp only [List.head?_cons, Option.some.injEq] at this; rw [this]; rfl)
            rw [if_neg ha, if_neg hz, if_pos (by omega), key]
        · have hz : ¬ zeroLed x := fun e => hl (by have := e.1; omega)
          rw [if_neg hl, if_neg hz, if_pos (by omega), key]
      · rw [if_pos (by omega), if_neg h5]
        rfl
theorem impl_ReadV4_eq (a : ByteArray) (ha : a.size ≤ 1048576) (k : Nat) (hk : 30 ≤ k) : impl_ReadV4.f k a = some (v4all (L a)) := by
  unfold impl_ReadV4.f strings_Split.f v4all
  rw [if_pos (by omega), if_pos (show (1 : Nat) ≤ ByteArray.size ⟨#[46]⟩ from by decide), Option.bind_some, split_cut, List.length_map]
  by_cases h : (cut 46 (L a)).length = 4
  · rw [if_pos (by omega), if_pos h, h]
    exact impl_ReadV4_l0 _ h (cut 46 (L a)) 0 k [] rfl (by omega) rfl (by omega)
  · rw [if_neg (by omega), if_neg h]

end Go.Proofs.YtlekdblkfidciaaDoor.Pure
namespace Go.Proofs.YtlekdblkfidciaaDoor.Pure
open Go.RowKit Go.Proofs.YtlekdblkfidciaaDoor.F Go.Proofs.YtlekdblkfidciaaDoor.Base Go.Proofs.YtlekdblkfidciaaDoorW.PrintWords Go.Proofs.YtlekdblkfidciaaDoorW.PrintLast Go.Proofs.YtlekdblkfidciaaDoorW.PrintMore
set_option linter.unusedVariables false
set_option linter.unusedSimpArgs false
-- base: BaseV4
/-- The bytes that groups tell. -/
def gv (last : Bool) : List (List UInt8) → Option (List Int)
  | [] => some []
  | x :: r => if last = true ∧ r = [] ∧ (v4all x).2 = 0 then some (bytesOf (v4all x).1) else if x.length < 1 ∨ 4 < x.length then none else match hxV 0 x with
    | none => none
    | some n => (gv last r).map fun t => (n : Int) / 256 % 256 :: (n : Int) % 256 :: t
def gres (acc : List Int) : Option (List Int) → ByteArray × Bool
  | none => (⟨#[]⟩, false)
  | some bs => (strOfNums (acc ++ bs), true)
theorem gres_map (acc : List Int) (a b : Int) (o : Option (List Int)) : gres acc (o.map fun t => a :: b :: t) = gres (acc ++ [a, b]) o := by
  cases o <;> simp [gres]
theorem v4all_size (x : List UInt8) : (bytesOf (v4all x).1).length ≤ 4 ∨ (v4all x).2 ≠ 0 := by
  unfold v4all
  by_cases h : (cut 46 x).length = 4
  · rw [if_pos h]
    have key : ∀ (r : List (List UInt8)) (acc ns : List Int), v4s r acc = some ns → ns.length = acc.length + r.length := by
      intro r
      induction r with
      | nil => intro acc ns h; cases h; rfl
      | cons y r ih =>
        intro acc ns h
        rw [v4s] at h
        cases hv : v4 y with
        | none => rw [hv] at h; cases h
        | some n =>
          rw [hv] at h
          have := ih _ _ h
          simp only [List.length_append, List.length_cons, List.length_nil] at this ⊢
          omega
    cases hv : v4s (cut 46 x) [] with
    | none => right; simp [v4res]
    | some ns =>
      left
      have := key _ _ _ hv
      simp only [List.length_nil] at this
      simp only [v4res]
      rw [bytesOf_length, size_L, L_strOfNums, List.length_map]
      omega
  · rw [if_neg h]; right; decide
theorem cut_sumG (c : UInt8) : ∀ l : List UInt8, l.length + 1 = ((cut c l).map fun x => x.length + 1).sum := by
  intro l
  induction l with
  | nil => rfl
  | cons b l ih =>
    obtain ⟨h, t, e⟩ := cut_ne c l
    rw [cut]
    by_cases hb : b = c
    · rw [if_pos hb, List.map_cons, List.sum_cons, ← ih]
      simp
      omega
    · rw [if_neg hb, e, glue, List.length_cons]
      rw [e] at ih
      simp only [List.map_cons, List.sum_cons, List.singleton_append, List.length_cons] at ih ⊢
      omega
theorem cut_mem_len (c : UInt8) : ∀ l : List UInt8, ∀ x ∈ cut c l, x.length ≤ l.length := by
  intro l x hx
  have h := cut_sumG c l
  have key : ∀ (q : List (List UInt8)), ∀ x ∈ q, x.length + 1 ≤ (q.map fun y => y.length + 1).sum := by
    intro q
    induction q with
    | nil => intro x hx; cases hx
    | cons y q ih =>
      intro x hx
      simp only [List.map_cons, List.sum_cons]
      rcases List.mem_cons.1 hx with rfl | hx
      · omega
      · have := ih x hx; omega
  have := key _ x hx
  omega
theorem impl_groups_l0 (last : Bool) (pl : List (List UInt8)) (hp : ∀ x ∈ pl, x.length ≤ 1000000) (hn : pl.length ≤ 1000) : ∀ (r : List (List UInt8)) (i k : Nat) (acc : List Int), pl.drop i = r → i + r.length = pl.length → acc.length ≤ 4 * i → 100 + 5 * r.length ≤ k →
    impl_groups.l0 k last acc (pl.map B) (pl.map B) (pl.length : Int) (i : Int) = some (gres acc (gv last r)) := by
  intro r
  induction r with
  | nil =>
    intro i k acc h1 h2 h3 hk
    obtain ⟨k, rfl⟩ : ∃ m, k = m + 1 := ⟨k - 1, by omega⟩
    simp only [List.length_nil] at h2
    rw [impl_groups.l0, if_neg (by omega)]
    simp [gv, gres]
  | cons x r ih =>
    intro i k acc h1 h2 h3 hk
    obtain ⟨k, rfl⟩ : ∃ m, k = m + 4 := ⟨k - 4, by omega⟩
    simp only [List.length_cons] at h2 hk
    have hrd : rdOf ByteArray.empty (pl.map B) (i : Int) = B x := by
      rw [rdOf, List.getD_eq_getElem?_getD, Int.toNat_natCast, List.getElem?_map]
      have : pl[i]? = (pl.drop i)[0]? := by rw [List.getElem?_drop, Nat.add_zero]
      rw [this, h1]
      rfl
    have hd1 : pl.drop (i + 1) = r := by rw [← List.drop_drop, h1]; rfl
    have hxm : x ∈ pl := List.mem_of_mem_drop (i := i) (by rw [h1]; exact List.mem_cons_self)
    have hx1 := hp x hxm
    have hsz : (B x).size = x.length := by rw [size_L, L_B]
    have hw : wrap64 ((i : Int) + 1) = ((i + 1 : Nat) : Int) := by rw [w64 (by omega) (by omega)]; omega
    have hwl : wrap64 (((pl.map B).length : Int) - 1) = (pl.length : Int) - 1 := by rw [List.length_map, w64 (by omega) (by omega)]
    have hlast : ((i : Int) == (pl.length : Int) - 1) = decide (r = []) := by
      cases r with
      | nil => simp only [List.length_nil] at h2; simp; omega
      | cons y r => simp only [List.length_cons] at h2; simp; omega
    have j3 : ∀ (K : Nat), k ≤ K → ∀ (bb : Bool), bb = decide ((B x).size < 1 ∨ 4 < (B x).size) → impl_groups.j3 (K + 1) last acc (pl.map B) (B x) (pl.map B) (pl.length : Int) (i : Int) bb = some (gres acc (if x.length < 1 ∨ 4 < x.length then none else match hxV 0 x with
        | none => none
        | some n => (gv last r).map fun t => (n : Int) / 256 % 256 :: (n : Int) % 256 :: t)) := by
      intro K hK bb hbb
      rw [hsz] at hbb
      by_cases hc : x.length < 1 ∨ 4 < x.length
      · rw [hbb, decide_eq_true hc, impl_groups.j3, if_pos rfl, if_pos hc]
        rfl
      · rw [hbb, decide_eq_false hc, impl_groups.j3, if_neg (by decide), if_neg hc]
        have hxf : xhex.f (B x) = some ((((hxV 0 x).getD 0 : Nat) : Int), (hxV 0 x).isNone) := by
          unfold xhex.f
          rw [if_pos (by rw [hsz]; omega), show (B x).data.toList = x from L_B x]
        rw [hxf, Option.bind_some]
        cases hv : hxV 0 x with
        | none => rfl
        | some n =>
          simp only [Option.isNone_some, Option.getD_some, Option.bind_some]
          rw [if_neg (by decide), if_pos (by simp only [List.length_cons, List.length_nil]; omega), hw, gres_map]
          exact ih (i + 1) K _ hd1 (by omega) (by simp only [List.length_append, List.length_cons, List.length_nil]; omega) (by omega)
    have j2 : ∀ (K : Nat), k ≤ K → impl_groups.j2 (K + 2) last acc (pl.map B) (B x) (pl.map B) (pl.length : Int) (i : Int) = some (gres acc (if x.length < 1 ∨ 4 < x.length then none else match hxV 0 x with
        | none => none
        | some n => (gv last r).map fun t => (n : Int) / 256 % 256 :: (n : Int) % 256 :: t)) := by
      intro K hK
      rw [impl_groups.j2]
      by_cases h1' : ((B x).size : Int) < 1
      · rw [if_pos h1']
        exact j3 K hK true (by rw [decide_eq_true]; omega)
      · rw [if_neg h1']
        exact j3 K hK _ (by congr 1; simp only [eq_iff_iff]; omega)
    rw [impl_groups.l0, if_pos (by omega), if_pos (by omega), if_pos (by rw [List.length_map]; omega), hrd, hwl, hlast]
    have hb : impl_groups.j1 (k + 3) last acc (pl.map B) (B x) (pl.map B) (pl.length : Int) (i : Int) false = some (gres acc (if x.length < 1 ∨ 4 < x.length then none else match hxV 0 x with
        | none => none
        | some n => (gv last r).map fun t => (n : Int) / 256 % 256 :: (n : Int) % 256 :: t)) := by
      rw [impl_groups.j1, if_neg (by decide)]
      exact j2 k (Nat.le_refl _)
    by_cases hl : last = true
    · rw [if_pos hl]
      by_cases hr : r = []
      · rw [decide_eq_true hr, impl_groups.j1, if_pos rfl, impl_ReadV4_eq (B x) (by rw [hsz]; omega) (k + 2) (by omega), L_B, Option.bind_some]
        by_cases hv : (v4all x).2 = 0
        · have h4 : (bytesOf (v4all x).1).length ≤ 4 := by
            rcases v4all_size x with h | h
            · exact h
            · exact absurd hv h
          have hbl : (v4all x).1.size ≤ 4 := by rw [← bytesOf_length]; exact h4
          rw [if_pos hv, if_pos (by omega), hw, gv, if_pos ⟨hl, hr, hv⟩]
          have key := ih (i + 1) (k + 2) (acc ++ bytesOf (v4all x).1) hd1 (by omega) (by rw [List.length_append]; omega) (by omega)
          rw [key, hr]
          simp [gv, gres]
        · rw [if_neg hv, gv, if_neg (fun h => hv h.2.2)]
          exact j2 k (Nat.le_refl _)
      · rw [decide_eq_false hr, gv, if_neg (fun h => hr h.2.1)]
        exact hb
    · rw [if_neg hl, gv, if_neg (fun h => hl h.1)]
      exact hb
theorem impl_groups_eq (a : ByteArray) (ha : a.size ≤ 100) (last : Bool) (k : Nat) (hk : 1000 ≤ k) : impl_groups.f k a last = some (if L a = [] then (⟨#[]⟩, true) else gres [] (gv last (cut 58 (L a)))) := by
  have hz := size_L a
  unfold impl_groups.f
  by_cases h : L a = []
  · rw [if_pos (by rw [toL]; exact h), if_pos h]
  · rw [if_neg (by rw [toL]; exact h), if_neg h]
    unfold strings_Split.f
    rw [if_pos (by omega), if_pos (show (1 : Nat) ≤ ByteArray.size ⟨#[58]⟩ from by decide), Option.bind_some, split_cut, List.length_map]
    have hlen := cut_length 58 (L a)
    have hcnt := List.count_le_length (a := (58 : UInt8)) (l := L a)
    have hmem : ∀ x ∈ cut 58 (L a), x.length ≤ 1000000 := by
      intro x hx
      have key : ∀ l : List UInt8, ∀ x ∈ cut 58 l, x.length ≤ l.length := cut_mem_len 58
      have := key _ x hx
      omega
    exact impl_groups_l0 last (cut 58 (L a)) hmem (by omega) (cut 58 (L a)) 0 k [] rfl (by omega) (by simp) (by omega)

end Go.Proofs.YtlekdblkfidciaaDoor.Pure
namespace Go.Proofs.YtlekdblkfidciaaDoor.Pure
open Go.RowKit Go.Proofs.YtlekdblkfidciaaDoor.F Go.Proofs.YtlekdblkfidciaaDoor.Base Go.Proofs.YtlekdblkfidciaaDoorW.PrintWords Go.Proofs.YtlekdblkfidciaaDoorW.PrintLast Go.Proofs.YtlekdblkfidciaaDoorW.PrintMore
set_option linter.unusedVariables false
set_option linter.unusedSimpArgs false
-- base: BaseCut
theorem spec_l03Cut_l0 (x : ByteArray) (hx : x.size ≤ 1048576) (c : UInt8) : ∀ (l p q : List UInt8) (out : List ByteArray) (k : Nat), L x = p ++ q ++ l → l.length < k → out.length + l.length ≤ 2000000 →
    spec_l03Cut.l0 k x (c.toNat : Int) out (p.length : Int) ((p.length + q.length : Nat) : Int) = some (out ++ (glue q (cut c l)).map B) := by
  intro l
  induction l with
  | nil =>
    intro p q out k h hk ho
    obtain ⟨k, rfl⟩ : ∃ m, k = m + 1 := ⟨k - 1, by omega⟩
    have hs : x.size = p.length + q.length := by rw [size_L, h]; simp
    have he : x.extract ((p.length : Int)).toNat x.size = B q := L_inj (by rw [L_extract, L_B, h, Int.toNat_natCast, List.append_nil, List.drop_left, hs, show p.length + q.length - p.length = q.length from by omega, List.take_length])
    rw [spec_l03Cut.l0, if_neg (by omega), if_pos (by omega), if_pos (by omega), if_pos (by omega), he]
    simp [cut, glue]
  | cons b r ih =>
    intro p q out k h hk ho
    obtain ⟨k, rfl⟩ : ∃ m, k = m + 1 := ⟨k - 1, by omega⟩
    simp only [List.length_cons] at hk ho
    have hs : x.size = p.length + q.length + (r.length + 1) := by rw [size_L, h]; simp; omega
    have hb : bt x ((p.length + q.length : Nat) : Int) = (b.toNat : Int) := bt_mid h (by simp)
    rw [spec_l03Cut.l0, if_pos (by omega), if_pos (by omega), hb, w64 (by omega) (by omega), cut]
    by_cases hc : b = c
    · subst hc
      have he : x.extract ((p.length : Int)).toNat (((p.length + q.length : Nat) : Int)).toNat = B q := L_inj (by rw [L_extract, L_B, h, Int.toNat_natCast, Int.toNat_natCast, List.append_assoc, List.drop_left, show p.length + q.length - p.length = q.length from by omega, List.take_left])
      have := ih (p ++ q ++ [b]) [] (out ++ [B q]) k (by rw [h]; simp) (by omega) (by simp; omega)
      simp only [List.length_append, List.length_singleton, List.length_nil, Nat.add_zero] at this
      rw [if_pos rfl, if_pos (by omega), if_pos (by omega), if_pos (by omega), if_pos (by omega), he, if_pos rfl]
      rw [show ((p.length + q.length : Nat) : Int) + 1 = ((p.length + q.length + 1 : Nat) : Int) from by omega, this, glue_nil]
      simp [glue]
    · have hn : ¬ (b.toNat : Int) = (c.toNat : Int) := fun e => hc (UInt8.toNat_inj.1 (by omega))
      have := ih p (q ++ [b]) out k (by rw [h]; simp) (by omega) (by omega)
      simp only [List.length_append, List.length_singleton] at this
      rw [if_neg hn, if_neg hc, glue_glue, ← this]
      congr 1

end Go.Proofs.YtlekdblkfidciaaDoor.Pure
namespace Go.Proofs.YtlekdblkfidciaaDoor.Pure
open Go.RowKit Go.Proofs.YtlekdblkfidciaaDoor.F Go.Proofs.YtlekdblkfidciaaDoor.Base Go.Proofs.YtlekdblkfidciaaDoorW.PrintWords Go.Proofs.YtlekdblkfidciaaDoorW.PrintLast Go.Proofs.YtlekdblkfidciaaDoorW.PrintMore
set_option linter.unusedVariables false
set_option linter.unusedSimpArgs false
-- base: BaseV4
theorem spec_l03Dec_3 : ∀ n : Fin 1000, spec_l03Dec.f 4 (n.val : Int) = some (B (dtext n.val)) := by decide +kernel
theorem spec_l03Dec_small (n : Int) (h0 : 0 ≤ n) (h1 : n < 1000) (k : Nat) (hk : 4 ≤ k) : spec_l03Dec.f k n = some (B (dtext n)) := by
  have h := spec_l03Dec_3 ⟨n.toNat, by omega⟩
  have e : ((n.toNat : Nat) : Int) = n := by omega
  simp only [e] at h
  obtain ⟨j, rfl⟩ : ∃ j, k = 4 + j := ⟨k - 4, by omega⟩
  clear hk
  induction j with
  | zero => exact h
  | succ j ih => exact spec_l03Dec.mono n (4 + j) _ ih

end Go.Proofs.YtlekdblkfidciaaDoor.Pure
namespace Go.Proofs.YtlekdblkfidciaaDoor.Pure
open Go.RowKit Go.Proofs.YtlekdblkfidciaaDoor.F Go.Proofs.YtlekdblkfidciaaDoor.Base Go.Proofs.YtlekdblkfidciaaDoorW.PrintWords Go.Proofs.YtlekdblkfidciaaDoorW.PrintLast Go.Proofs.YtlekdblkfidciaaDoorW.PrintMore
set_option linter.unusedVariables false
set_option linter.unusedSimpArgs false
-- base: BaseTTL
theorem spec_l01Digit_dig (c : UInt8) : spec_l01Digit.f (c.toNat : Int) = some (dig c) := by
  unfold spec_l01Digit.f
  by_cases hd : dig c
  · have hr := (dig_iff c).1 hd
    rw [if_pos (by omega), hd, decide_eq_true (by omega)]
  · have hr : ¬ (48 ≤ (c.toNat : Int) ∧ (c.toNat : Int) ≤ 57) := fun e => hd ((dig_iff c).2 e)
    rw [Bool.not_eq_true] at hd
    rw [hd]
    by_cases h : (c.toNat : Int) ≥ 48
    · rw [if_pos h, decide_eq_false (by omega)]
    · rw [if_neg h]

end Go.Proofs.YtlekdblkfidciaaDoor.Pure
namespace Go.Proofs.YtlekdblkfidciaaDoor.Pure
open Go.RowKit Go.Proofs.YtlekdblkfidciaaDoor.F Go.Proofs.YtlekdblkfidciaaDoor.Base Go.Proofs.YtlekdblkfidciaaDoorW.PrintWords Go.Proofs.YtlekdblkfidciaaDoorW.PrintLast Go.Proofs.YtlekdblkfidciaaDoorW.PrintMore
set_option linter.unusedVariables false
set_option linter.unusedSimpArgs false
-- base: BaseTTL
theorem spec_l03Number_l0 (x : ByteArray) (hx : x.size ≤ 10) : ∀ (l p : List UInt8) (n : Int) (k : Nat), L x = p ++ l → 0 ≤ n → n < 10 ^ p.length → l.length < k → spec_l03Number.l0 k x n (p.length : Int) = some ((dec n l).getD 0, (dec n l).isSome) := by
  intro l
  induction l with
  | nil =>
    intro p n k h h0 h1 hk
    obtain ⟨k, rfl⟩ : ∃ m, k = m + 1 := ⟨k - 1, by simp at hk; omega⟩
    have hz : x.size = p.length := by rw [size_L, h]; simp
    rw [spec_l03Number.l0, if_neg (by omega)]
    rfl
  | cons c r ih =>
    intro p n k h h0 h1 hk
    obtain ⟨k, rfl⟩ : ∃ m, k = m + 1 := ⟨k - 1, by simp at hk; omega⟩
    have hz : x.size = p.length + (r.length + 1) := by rw [size_L, h]; simp
    have hc := byte_le c
    have hp : (10 : Int) ^ p.length ≤ 1000000000 := by
      rcases (by omega : p.length = 0 ∨ p.length = 1 ∨ p.length = 2 ∨ p.length = 3 ∨ p.length = 4 ∨ p.length = 5 ∨ p.length = 6 ∨ p.length = 7 ∨ p.length = 8 ∨ p.length = 9) with e | e | e | e | e | e | e | e | e | e <;> rw [e] <;> decide
    rw [spec_l03Number.l0, if_pos (by omega), if_pos (by omega), bt_mid h rfl, spec_l01Digit_dig, Option.bind_some, dec]
    by_cases hd : dig c
    · have hr := (dig_iff c).1 hd
      rw [if_pos hd, if_pos hd, Int.emod_eq_of_lt (a := (c.toNat : Int) - 48) (b := 256) (by omega) (by omega), w64 (x := n * 10) (by omega) (by omega), w64 (x := n * 10 + ((c.toNat : Int) - 48)) (by omega) (by omega), w64 (x := (p.length : Int) + 1) (by omega) (by omega)]
      have e : (p.length : Int) + 1 = ((p ++ [c]).length : Int) := by simp
      rw [e]
      exact ih (p ++ [c]) _ k (by rw [h]; simp) (by omega) (by rw [List.length_append, List.length_singleton, Int.pow_succ]; omega) (by simp at hk; omega)
    · rw [if_neg hd, if_neg hd]; rfl
theorem spec_l03Number_eq (x : ByteArray) (m : Int) (m' : Nat) (hm : m = (m' : Int)) (hm2 : m' ≤ 10) (k : Nat) (hk : 13 ≤ k) : spec_l03Number.f k x m = some ((dnum (L x) m').getD 0, (dnum (L x) m').isSome) := by
  subst hm
  obtain ⟨k, rfl⟩ : ∃ j, k = j + 1 := ⟨k - 1, by omega⟩
  have hs := size_L x
  unfold spec_l03Number.f dnum
  by_cases h1 : (x.size : Int) < 1
  · rw [if_pos h1, spec_l03Number.j0, if_pos rfl, if_pos (by omega)]; rfl
  · rw [if_neg h1]
    by_cases h2 : (x.size : Int) > (m' : Int)
    · rw [decide_eq_true h2, spec_l03Number.j0, if_pos rfl, if_pos (by omega)]; rfl
    · rw [decide_eq_false h2, spec_l03Number.j0, if_neg (by decide), if_neg (by omega)]
      have := spec_l03Number_l0 x (by omega) (L x) [] 0 k rfl (by decide) (by decide) (by omega)
      simpa using this

end Go.Proofs.YtlekdblkfidciaaDoor.Pure
namespace Go.Proofs.YtlekdblkfidciaaDoor.Pure
open Go.RowKit Go.Proofs.YtlekdblkfidciaaDoor.F Go.Proofs.YtlekdblkfidciaaDoor.Base Go.Proofs.YtlekdblkfidciaaDoorW.PrintWords Go.Proofs.YtlekdblkfidciaaDoorW.PrintLast Go.Proofs.YtlekdblkfidciaaDoorW.PrintMore
set_option linter.unusedVariables false
set_option linter.unusedSimpArgs false
-- base: BaseV4
theorem spec_ReadV4_l0 (pl : List (List UInt8)) (hpl : pl.length = 4) : ∀ (r : List (List UInt8)) (i k : Nat) (acc : List Int), pl.drop i = r → i + r.length = 4 → acc.length = i → 20 + r.length ≤ k →
    spec_ReadV4.l0 k (pl.map B) acc (i : Int) = some (v4res (v4s r acc)) := by
  intro r
  induction r with
  | nil =>
    intro i k acc h1 h2 h3 hk
    obtain ⟨k, rfl⟩ : ∃ m, k = m + 1 := ⟨k - 1, by omega⟩
    simp only [List.length_nil] at h2
    rw [spec_ReadV4.l0, if_neg (by omega)]
    rfl
  | cons x r ih =>
    intro i k acc h1 h2 h3 hk
    obtain ⟨k, rfl⟩ : ∃ m, k = m + 1 := ⟨k - 1, by omega⟩
    simp only [List.length_cons] at h2 hk
    have hrd : rdOf ByteArray.empty (pl.map B) (i : Int) = B x := by
      rw [rdOf, List.getD_eq_getElem?_getD, Int.toNat_natCast, List.getElem?_map]
      have : pl[i]? = (pl.drop i)[0]? := by rw [List.getElem?_drop, Nat.add_zero]
      rw [this, h1]
      rfl
    have hd1 : pl.drop (i + 1) = r := by rw [← List.drop_drop, h1]; rfl
    rw [spec_ReadV4.l0, if_pos (by omega), if_pos (by omega), if_pos (by rw [List.length_map]; omega), hrd, spec_l03Number_eq _ 3 3 rfl (by omega) k (by omega), Option.bind_some, L_B, v4s, v4, w64 (x := (i : Int) + 1) (by omega) (by omega)]
    cases hd : dnum x 3 with
    | none => rfl
    | some n =>
      obtain ⟨g1, g2, g3⟩ := dnum3 hd
      simp only [Option.getD_some, Option.isSome_some]
      rw [if_pos trivial]
      by_cases h5 : n ≤ 255
      · have key := ih (i + 1) k (acc ++ [n]) hd1 (by omega) (by simp [h3]) (by omega)
        rw [show ((i + 1 : Nat) : Int) = (i : Int) + 1 from by omega] at key
        have hmod : n % 256 = n := by omega
        rw [if_neg (by omega), if_pos h5, spec_l03Dec_small n g1 g2 k (by omega), Option.bind_some, toL, toL, L_B, L_B, hmod]
        by_cases hz : zeroLed x
        · rw [if_neg (fun e => g3.1 e hz), if_pos hz]
          rfl
        · rw [if_pos (g3.2 hz), if_neg hz, if_pos (by omega), key]
      · rw [if_pos (by omega), if_neg h5]
        rfl
theorem v4s_len : ∀ (r : List (List UInt8)) (acc ns : List Int), v4s r acc = some ns → ∀ x ∈ r, x.length ≤ 3 := by
  intro r
  induction r with
  | nil => intro acc ns _ x hx; cases hx
  | cons y r ih =>
    intro acc ns h x hx
    rw [v4s] at h
    cases hy : v4 y with
    | none => rw [hy] at h; cases h
    | some n =>
      rw [hy] at h
      rcases List.mem_cons.1 hx with rfl | hx
      · exact v4_len hy
      · exact ih _ _ h x hx
theorem cut_sum (c : UInt8) : ∀ l : List UInt8, l.length + 1 = ((cut c l).map fun x => x.length + 1).sum := by
  intro l
  induction l with
  | nil => rfl
  | cons b l ih =>
    obtain ⟨h, t, e⟩ := cut_ne c l
    rw [cut]
    by_cases hb : b = c
    · rw [if_pos hb, List.map_cons, List.sum_cons, ← ih]
      simp
      omega
    · rw [if_neg hb, e, glue, List.length_cons]
      rw [e] at ih
      simp only [List.map_cons, List.sum_cons, List.singleton_append, List.length_cons] at ih ⊢
      omega
theorem spec_ReadV4_eq (a : ByteArray) (ha : a.size ≤ 1048576) (k : Nat) (hk : 1100000 ≤ k) : spec_ReadV4.f k a = some (v4all (L a)) := by
  have hs := size_L a
  have hcut := cut_sum 46 (L a)
  unfold spec_ReadV4.f v4all
  by_cases h15 : (a.size : Int) > 15
  · rw [if_pos h15]
    by_cases h : (cut 46 (L a)).length = 4
    · rw [if_pos h]
      cases hv : v4s (cut 46 (L a)) [] with
      | none => rfl
      | some ns =>
        have hl := v4s_len _ _ _ hv
        generalize cut 46 (L a) = q at h hcut hl
        match q, h with
        | [x, y, z, w], _ =>
          have h1 := hl x (by simp)
          have h2 := hl y (by simp)
          have h3 := hl z (by simp)
          have h4 := hl w (by simp)
          simp only [List.map_cons, List.map_nil, List.sum_cons, List.sum_nil] at hcut
          omega
    · rw [if_neg h]
  · have hc := spec_l03Cut_l0 a ha 46 (L a) [] [] [] k rfl (by omega) (by simp; omega)
    simp only [List.length_nil, Nat.add_zero, List.nil_append, glue_nil] at hc
    rw [if_neg h15, show spec_l03Cut.f k a 46 = some ((cut 46 (L a)).map B) from hc, Option.bind_some, List.length_map]
    by_cases h : (cut 46 (L a)).length = 4
    · rw [if_pos (by omega), if_pos h]
      exact spec_ReadV4_l0 _ h (cut 46 (L a)) 0 k [] rfl (by omega) rfl (by omega)
    · rw [if_neg (by omega), if_neg h]

end Go.Proofs.YtlekdblkfidciaaDoor.Pure
namespace Go.Proofs.YtlekdblkfidciaaDoor.Base
open Go.RowKit Go.Proofs.YtlekdblkfidciaaDoorW.PrintWords Go.Proofs.YtlekdblkfidciaaDoorW.PrintLast
/-- The number of some bytes behind a number. -/
def num (n : Int) : List UInt8 → Int
  | [] => n
  | c :: r => num (n * 256 + c.toNat) r
theorem list12 {α : Type} {l : List α} (h : l.length = 12) : ∃ c0 c1 c2 c3 c4 c5 c6 c7 c8 c9 c10 c11, l = [c0, c1, c2, c3, c4, c5, c6, c7, c8, c9, c10, c11] := by
  match l, h with
  | [c0, c1, c2, c3, c4, c5, c6, c7, c8, c9, c10, c11], _ => exact ⟨_, _, _, _, _, _, _, _, _, _, _, _, rfl⟩
end Go.Proofs.YtlekdblkfidciaaDoor.Base
namespace Go.Proofs.YtlekdblkfidciaaDoor.Pure
open Go.RowKit Go.Proofs.YtlekdblkfidciaaDoor.F Go.Proofs.YtlekdblkfidciaaDoor.Base Go.Proofs.YtlekdblkfidciaaDoorW.PrintWords Go.Proofs.YtlekdblkfidciaaDoorW.PrintLast Go.Proofs.YtlekdblkfidciaaDoorW.PrintMore
set_option linter.unusedVariables false
set_option linter.unusedSimpArgs false
-- base: BaseNum
/-- The bytes of a number, the high one first. -/
def be (n : Int) (w : Nat) : List Int := (List.range w).reverse.map fun (i : Nat) => n / 2 ^ (8 * i) % 256
theorem be_succ (n : Int) (w : Nat) : be n (w + 1) = n / 2 ^ (8 * w) % 256 :: be n w := by
  unfold be
  rw [List.range_succ, List.reverse_append]
  rfl
theorem be_length (n : Int) (w : Nat) : (be n w).length = w := by simp [be]
theorem spec_l02Put_l0 (n : Int) : ∀ (d k : Nat) (out : List Int), d ≤ 8 → d < k → out.length + d ≤ 100 → spec_l02Put.l0 k n out ((d : Int) - 1) = some (strOfNums (out ++ be n d)) := by
  intro d
  induction d with
  | zero =>
    intro k out _ hk _
    obtain ⟨k, rfl⟩ : ∃ m, k = m + 1 := ⟨k - 1, by omega⟩
    rw [spec_l02Put.l0, if_neg (by omega)]
    simp [be]
  | succ d ih =>
    intro k out hd hk ho
    obtain ⟨k, rfl⟩ : ∃ m, k = m + 1 := ⟨k - 1, by omega⟩
    have e0 : ((d + 1 : Nat) : Int) - 1 = (d : Int) := by omega
    have e1 : Go.IntKind.u64.wrap (wrap64 (8 * (d : Int))) = ((8 * d : Nat) : Int) := by
      rw [w64 (by omega) (by omega), Go.IntKind.wrap_u64]
      omega
    have e2 : shr .i64 n ((8 * d : Nat) : Int) = n / 2 ^ (8 * d) := by
      unfold shr
      rw [Int.toNat_natCast, Nat.min_eq_left (by show 8 * d ≤ 64; omega)]
    rw [spec_l02Put.l0, e0, if_pos (by omega), e1, if_pos (by omega), if_pos (by omega), e2, w64 (by omega) (by omega), ih k _ (by omega) (by omega) (by simp; omega), be_succ]
    simp
theorem spec_l02Put_eq (n : Int) (w : Nat) (hw : w ≤ 8) (k : Nat) (hk : w < k) : spec_l02Put.f k n (w : Int) = some (strOfNums (be n w)) := by
  unfold spec_l02Put.f
  rw [w64 (by omega) (by omega), spec_l02Put_l0 n w k [] hw hk (by simp; omega)]
  simp

end Go.Proofs.YtlekdblkfidciaaDoor.Pure
namespace Go.Proofs.YtlekdblkfidciaaDoor.Pure
open Go.RowKit Go.Proofs.YtlekdblkfidciaaDoor.F Go.Proofs.YtlekdblkfidciaaDoor.Base Go.Proofs.YtlekdblkfidciaaDoorW.PrintWords Go.Proofs.YtlekdblkfidciaaDoorW.PrintLast Go.Proofs.YtlekdblkfidciaaDoorW.PrintMore
set_option linter.unusedVariables false
set_option linter.unusedSimpArgs false
-- base: BaseV4
theorem hex_at : ∀ c : Fin 256, spec_l03Hex.f 3 (c.val : Int) = some (match hxC c.val with
    | some d => (d : Int)
    | none => -1) := by decide +kernel
theorem hex_k (c : Nat) (hc : c < 256) (k : Nat) (hk : 3 ≤ k) : spec_l03Hex.f k (c : Int) = some (match hxC c with
    | some d => (d : Int)
    | none => -1) := by
  obtain ⟨j, rfl⟩ : ∃ j, k = 3 + j := ⟨k - 3, by omega⟩
  clear hk
  induction j with
  | zero => exact hex_at ⟨c, hc⟩
  | succ j ih => exact spec_l03Hex.mono _ (3 + j) _ ih
theorem strOf_bytes (s : ByteArray) : strOfNums (bytesOf s) = s := by
  apply L_inj
  rw [L_strOfNums, bytesOf, List.map_map]
  show (s.data.toList.map _) = s.data.toList
  conv => rhs; rw [← List.map_id s.data.toList]
  apply List.map_congr_left
  intro u _
  exact byte_id u
theorem strOf_appG (a b : List Int) : strOfNums (a ++ b) = strOfNums a ++ strOfNums b := by
  apply L_inj
  rw [L_append, L_strOfNums, L_strOfNums, L_strOfNums, List.map_append]
theorem strOf_sizeG (a : List Int) : (strOfNums a).size = a.length := by rw [size_L, L_strOfNums, List.length_map]
theorem groups_l1 (last : Bool) (X : List ByteArray) (x : List UInt8) (hx4 : x.length ≤ 4) (i : Nat) (hi : i < X.length) (hn : X.length ≤ 1000) (hrd : rdOf ByteArray.empty X (i : Int) = B x) (acc : List Int) (ha : acc.length ≤ 4000) (RR : Nat → ByteArray × Bool) (K0 : Nat)
    (hc : ∀ (m K : Nat), K0 ≤ K → spec_l03Groups.l0 K last X (strOfNums (acc ++ [(m : Int) / 256 % 256, (m : Int) % 256])) ((i + 1 : Nat) : Int) = some (RR m)) : ∀ (q p : List UInt8) (n k : Nat), x = p ++ q → n < 16 ^ p.length → K0 + 20 + q.length ≤ k →
    spec_l03Groups.l1 k last X (strOfNums acc) (i : Int) (n : Int) (p.length : Int) = some (match hxV n q with
      | none => ((⟨#[]⟩ : ByteArray), false)
      | some m => RR m) := by
  have hsz : (B x).size = x.length := by rw [size_L, L_B]
  intro q
  induction q with
  | nil =>
    intro p n k h1 h2 hk
    obtain ⟨k, rfl⟩ : ∃ m, k = m + 1 := ⟨k - 1, by omega⟩
    simp only [List.length_nil] at hk
    have hpl : x.length = p.length := by rw [h1]; simp
    have q1 : (0 : Int) ≤ (i : Int) := by omega
    have q2 : (i : Int) < (X.length : Int) := by omega
    have q3 : ¬ ((p.length : Int) < (x.length : Int)) := by omega
    have q4 : K0 ≤ k := by omega
    have q5 : 2 < k := by omega
    have q6 : acc.length + 2 ≤ 9223372036854775807 := by omega
    have hw : wrap64 ((i : Int) + 1) = ((i + 1 : Nat) : Int) := by rw [w64 (by omega) (by omega)]; omega
    have hbe : be (n : Int) 2 = [(n : Int) / 256 % 256, (n : Int) % 256] := by simp [be, List.range_succ]
    have hp2 := spec_l02Put_eq (n : Int) 2 (by decide) k q5
    rw [hbe] at hp2
    have hp3 : spec_l02Put.f k (n : Int) 2 = some (strOfNums [(n : Int) / 256 % 256, (n : Int) % 256]) := hp2
    have hsum : (strOfNums acc).size + (strOfNums [(n : Int) / 256 % 256, (n : Int) % 256]).size ≤ 9223372036854775807 := by
      rw [strOf_sizeG, strOf_sizeG]
      exact q6
    rw [spec_l03Groups.l1, if_pos q1, if_pos q2, hrd, hsz, if_neg q3, hp3, Option.bind_some, if_pos hsum, hw, ← strOf_appG, hc n k q4]
    rfl
  | cons c q ih =>
    intro p n k h1 h2 hk
    obtain ⟨k, rfl⟩ : ∃ m, k = m + 1 := ⟨k - 1, by omega⟩
    simp only [List.length_cons] at hk
    have hpl : x.length = p.length + (q.length + 1) := by rw [h1]; simp
    have hb : bt (B x) (p.length : Int) = (c.toNat : Int) := bt_mid (p := p) (r := q) (by rw [L_B, h1]) rfl
    have hp3 : p.length ≤ 3 := by omega
    have hn4 : n < 4096 := by
      have : 16 ^ p.length ≤ 16 ^ 3 := Nat.pow_le_pow_right (by decide) hp3
      omega
    rw [spec_l03Groups.l1, if_pos (by omega), if_pos (by omega), hrd, hsz, if_pos (by omega), if_pos (by omega), hb, hex_k _ c.toNat_lt k (by omega), Option.bind_some, hxV]
    cases hh : hxC c.toNat with
    | none => rfl
    | some d =>
      have hd := hxC_lt c.toNat d c.toNat_lt hh
      simp only
      rw [if_neg (by omega), w64 (x := (n : Int) * 16) (by omega) (by omega), w64 (x := (n : Int) * 16 + (d : Int)) (by omega) (by omega), w64 (x := (p.length : Int) + 1) (by omega) (by omega)]
      have e1 : (n : Int) * 16 + (d : Int) = ((n * 16 + d : Nat) : Int) := by omega
      have e2 : (p.length : Int) + 1 = ((p ++ [c]).length : Int) := by simp
      rw [e1, e2]
      exact ih (p ++ [c]) (n * 16 + d) k (by rw [h1]; simp) (by rw [List.length_append, List.length_cons, List.length_nil, Nat.pow_succ]; omega) (by omega)
theorem groups_l0 (last : Bool) (pl : List (List UInt8)) (hp : ∀ x ∈ pl, x.length ≤ 1000000) (hn : pl.length ≤ 1000) : ∀ (r : List (List UInt8)) (i k : Nat) (acc : List Int), pl.drop i = r → i + r.length = pl.length → acc.length ≤ 4 * i → 1200000 + 100 * r.length ≤ k →
    spec_l03Groups.l0 k last (pl.map B) (strOfNums acc) (i : Int) = some (gres acc (gv last r)) := by
  intro r
  induction r with
  | nil =>
    intro i k acc h1 h2 h3 hk
    obtain ⟨k, rfl⟩ : ∃ m, k = m + 1 := ⟨k - 1, by omega⟩
    simp only [List.length_nil] at h2
    rw [spec_l03Groups.l0, if_neg (by rw [List.length_map]; omega)]
    simp [gv, gres]
  | cons x r ih =>
    intro i k acc h1 h2 h3 hk
    obtain ⟨k, rfl⟩ : ∃ m, k = m + 3 := ⟨k - 3, by omega⟩
    simp only [List.length_cons] at h2 hk
    have hrd : rdOf ByteArray.empty (pl.map B) (i : Int) = B x := by
      rw [rdOf, List.getD_eq_getElem?_getD, Int.toNat_natCast, List.getElem?_map]
      have : pl[i]? = (pl.drop i)[0]? := by rw [List.getElem?_drop, Nat.add_zero]
      rw [this, h1]
      rfl
    have hd1 : pl.drop (i + 1) = r := by rw [← List.drop_drop, h1]; rfl
    have hxm : x ∈ pl := List.mem_of_mem_drop (i := i) (by rw [h1]; exact List.mem_cons_self)
    have hx1 := hp x hxm
    have hsz : (B x).size = x.length := by rw [size_L, L_B]
    have hml : (pl.map B).length = pl.length := List.length_map _
    have hw : wrap64 ((i : Int) + 1) = ((i + 1 : Nat) : Int) := by rw [w64 (by omega) (by omega)]; omega
    have hwl : wrap64 ((pl.length : Int) - 1) = (pl.length : Int) - 1 := w64 (by omega) (by omega)
    have hlast : ((i : Int) == (pl.length : Int) - 1) = decide (r = []) := by
      cases r with
      | nil => simp only [List.length_nil] at h2; simp; omega
      | cons y r => simp only [List.length_cons] at h2; simp; omega
    have hb : ∀ four, spec_l03Groups.j1 (k + 2) last (pl.map B) (strOfNums acc) (i : Int) four false = some (gres acc (if x.length < 1 ∨ 4 < x.length then none else match hxV 0 x with
        | none => none
        | some n => (gv last r).map fun t => (n : Int) / 256 % 256 :: (n : Int) % 256 :: t)) := by
      intro four
      rw [spec_l03Groups.j1, if_neg (by decide), if_pos (by omega), if_pos (by rw [hml]; omega), hrd, hsz]
      have go : ∀ bb : Bool, bb = decide (x.length < 1 ∨ 4 < x.length) → spec_l03Groups.j2 (k + 1) last (pl.map B) (strOfNums acc) (i : Int) bb = some (gres acc (if x.length < 1 ∨ 4 < x.length then none else match hxV 0 x with
        | none => none
        | some n => (gv last r).map fun t => (n : Int) / 256 % 256 :: (n : Int) % 256 :: t)) := by
        intro bb hbb
        by_cases hc : x.length < 1 ∨ 4 < x.length
        · rw [hbb, decide_eq_true hc, spec_l03Groups.j2, if_pos rfl, if_pos hc]
          rfl
        · rw [hbb, decide_eq_false hc, spec_l03Groups.j2, if_neg (by decide), if_neg hc]
          have key := groups_l1 last (pl.map B) x (by omega) i (by rw [hml]; omega) (by rw [hml]; exact hn) hrd acc (by omega) (fun (m : Nat) => gres (acc ++ [(m : Int) / 256 % 256, (m : Int) % 256]) (gv last r)) (1200000 + 100 * r.length)
            (fun (m K : Nat) hK => ih (i + 1) K _ hd1 (by omega) (by simp only [List.length_append, List.length_cons, List.length_nil]; omega) (by omega)) x [] 0 k rfl (by decide) (by omega)
          have key2 : spec_l03Groups.l1 k last (pl.map B) (strOfNums acc) (i : Int) 0 0 = _ := key
          rw [key2]
          cases hxV 0 x with
          | none => rfl
          | some m => simp only; rw [gres_map]
      by_cases hc1 : (x.length : Int) < 1
      · rw [if_pos hc1]
        exact go true (by rw [eq_comm, decide_eq_true_iff]; omega)
      · rw [if_neg hc1]
        exact go _ (by congr 1; simp only [eq_iff_iff]; omega)
    rw [spec_l03Groups.l0, if_pos (by rw [hml]; omega), if_pos (by omega), hrd, spec_ReadV4_eq (B x) (by rw [hsz]; omega) (k + 2) (by omega), L_B, Option.bind_some, hml, hwl, hlast]
    by_cases hv : (v4all x).2 = 0
    · rw [if_pos hv]
      by_cases hl : last = true
      · rw [if_pos hl]
        by_cases hr : r = []
        · have h4 : (bytesOf (v4all x).1).length ≤ 4 := by
            rcases v4all_size x with h | h
            · exact h
            · exact absurd hv h
          have hbl : (v4all x).1.size ≤ 4 := by rw [← bytesOf_length]; exact h4
          have hsum : (strOfNums acc).size + (v4all x).1.size ≤ 9223372036854775807 := by rw [strOf_sizeG]; omega
          have key := ih (i + 1) (k + 1) (acc ++ bytesOf (v4all x).1) hd1 (by omega) (by rw [List.length_append]; omega) (by omega)
          rw [strOf_appG, strOf_bytes] at key
          rw [decide_eq_true hr, spec_l03Groups.j1, if_pos rfl, if_pos hsum, hw, key, gv, if_pos ⟨hl, hr, hv⟩, hr]
          simp [gv, gres]
        · rw [decide_eq_false hr, gv, if_neg (fun h => hr h.2.1)]
          exact hb _
      · rw [if_neg hl, gv, if_neg (fun h => hl h.1)]
        exact hb _
    · rw [if_neg hv, gv, if_neg (fun h => hv h.2.2)]
      exact hb _
theorem spec_l03Groups_eq (a : ByteArray) (ha : a.size ≤ 100) (last : Bool) (k : Nat) (hk : 1300000 ≤ k) : spec_l03Groups.f k a last = some (if L a = [] then (⟨#[]⟩, true) else gres [] (gv last (cut 58 (L a)))) := by
  have hz := size_L a
  unfold spec_l03Groups.f
  by_cases h : L a = []
  · rw [if_pos (by rw [toL]; exact h), if_pos h]
  · have hc := spec_l03Cut_l0 a (by omega) 58 (L a) [] [] [] k rfl (by omega) (by simp; omega)
    simp only [List.length_nil, Nat.add_zero, List.nil_append, glue_nil] at hc
    have hc2 : spec_l03Cut.f k a 58 = some ((cut 58 (L a)).map B) := hc
    rw [if_neg (by rw [toL]; exact h), if_neg h, hc2, Option.bind_some]
    have hlen := cut_length 58 (L a)
    have hcnt := List.count_le_length (a := (58 : UInt8)) (l := L a)
    have hmem : ∀ x ∈ cut 58 (L a), x.length ≤ 1000000 := by
      intro x hx
      have := cut_mem_len 58 _ x hx
      omega
    exact groups_l0 last (cut 58 (L a)) hmem (by omega) (cut 58 (L a)) 0 k [] rfl (by omega) (by simp) (by omega)

end Go.Proofs.YtlekdblkfidciaaDoor.Pure
namespace Go.Proofs.YtlekdblkfidciaaDoor.Pure
open Go.RowKit Go.Proofs.YtlekdblkfidciaaDoor.F Go.Proofs.YtlekdblkfidciaaDoor.Base Go.Proofs.YtlekdblkfidciaaDoorW.PrintWords Go.Proofs.YtlekdblkfidciaaDoorW.PrintLast Go.Proofs.YtlekdblkfidciaaDoorW.PrintMore
set_option linter.unusedVariables false
set_option linter.unusedSimpArgs false
def gg (last : Bool) (l : List UInt8) : ByteArray × Bool := if l = [] then (⟨#[]⟩, true) else gres [] (gv last (cut 58 l))
theorem gv_len (last : Bool) : ∀ (r : List (List UInt8)) (bs : List Int), gv last r = some bs → bs.length ≤ 4 * r.length
  | [], bs, h => by cases h; simp
  | x :: r, bs, h => by
    rw [gv] at h
    split at h
    · rename_i hc
      cases h
      rcases v4all_size x with h4 | h4
      · simp only [List.length_cons]; omega
      · exact absurd hc.2.2 h4
    · split at h
      · cases h
      · split at h
        · cases h
        · obtain ⟨t, ht, rfl⟩ := Option.map_eq_some_iff.1 h
          have := gv_len last r t ht
          simp only [List.length_cons]
          omega
theorem gg_size (last : Bool) (l : List UInt8) (hl : l.length ≤ 100) : (gg last l).1.size ≤ 1000 := by
  unfold gg
  split
  · decide
  · cases h : gv last (cut 58 l) with
    | none => decide
    | some bs =>
      have h1 := gv_len last _ _ h
      have h2 := cut_length 58 l
      have h3 := List.count_le_length (a := (58 : UInt8)) (l := l)
      simp only [gres, List.nil_append]
      rw [size_L, L_strOfNums, List.length_map]
      omega
theorem gg_colon (r : List UInt8) : (gg true (58 :: r)).2 = false := by
  unfold gg
  rw [if_neg (by simp)]
  obtain ⟨h, t, e⟩ := cut_ne 58 r
  have hc : cut 58 (58 :: r) = [] :: cut 58 r := by simp [cut]
  rw [hc, e, gv, if_neg (fun h => by cases h.2.1), if_pos (by left; decide)]
  rfl
theorem spec_g (a : ByteArray) (ha : a.size ≤ 100) (last : Bool) (k : Nat) (hk : 1300000 ≤ k) : spec_l03Groups.f k a last = some (gg last (L a)) := spec_l03Groups_eq a ha last k hk
theorem impl_g (a : ByteArray) (ha : a.size ≤ 100) (last : Bool) (k : Nat) (hk : 1000 ≤ k) : impl_groups.f k a last = some (gg last (L a)) := impl_groups_eq a ha last k hk
theorem l1_pad (y : ByteArray) (hy : y.size ≤ 14) : ∀ (m k : Nat) (x : ByteArray), x.size + y.size + m = 16 → m + 1 ≤ k → spec_ReadV6.l1 k x y = some (x ++ B (List.replicate m 0) ++ y, 0) := by
  intro m
  induction m with
  | zero =>
    intro k x h hk
    obtain ⟨k, rfl⟩ : ∃ m, k = m + 1 := ⟨k - 1, by omega⟩
    have h1 : ¬ (wrap64 ((x.size : Int) + (y.size : Int)) < 16) := by rw [w64 (by omega) (by omega)]; omega
    rw [spec_ReadV6.l1, if_neg h1, if_pos (by omega)]
    congr 2
    apply L_inj
    rw [L_append, L_append, L_append, L_B]
    simp
  | succ m ih =>
    intro k x h hk
    obtain ⟨k, rfl⟩ : ∃ m, k = m + 1 := ⟨k - 1, by omega⟩
    have h1 : wrap64 ((x.size : Int) + (y.size : Int)) < 16 := by rw [w64 (by omega) (by omega)]; omega
    have h2 : (x ++ (⟨#[0]⟩ : ByteArray)).size = x.size + 1 := by rw [ByteArray.size_append, show (⟨#[0]⟩ : ByteArray).size = 1 from rfl]
    rw [spec_ReadV6.l1, if_pos h1, if_pos (by omega), ih k _ (by rw [h2]; omega) (by omega)]
    congr 2
    apply L_inj
    rw [L_append, L_append, L_append, L_append, L_append, L_B, L_B]
    simp [L, List.replicate_succ]
theorem rep_zero : ∀ n, Lib.repeatL [0] n = List.replicate n 0
  | 0 => rfl
  | n + 1 => by rw [Lib.repeatL, rep_zero n, List.replicate_succ]; rfl
theorem occ_iff (a : ByteArray) (i : Nat) (hi : i + 1 < a.size) : (a.extract i (i + 2)).toList = ([58, 58] : List UInt8) ↔ Lib.occAt (L a) [58, 58] i = true := by
  rw [toL, L_extract, show i + 2 - i = 2 by omega, Lib.occAt, List.isPrefixOf_iff_prefix, List.prefix_iff_eq_take]
  exact ⟨fun h => h.symm, fun h => h.symm⟩
theorem l0_step (a : ByteArray) (ha : a.size ≤ 100) (i k : Nat) (hi : i + 1 < a.size) (ho : Lib.occAt (L a) [58, 58] i = false) : spec_ReadV6.l0 (k + 1) a (i : Int) = spec_ReadV6.l0 k a ((i + 1 : Nat) : Int) := by
  have w1 : wrap64 ((i : Int) + 1) = ((i + 1 : Nat) : Int) := by rw [w64 (by omega) (by omega)]; omega
  have w2 : wrap64 ((i : Int) + 2) = ((i + 2 : Nat) : Int) := by rw [w64 (by omega) (by omega)]; omega
  have hn : ¬ ((a.extract i (i + 2)).toList = ([58, 58] : List UInt8)) := fun e => by
    have := (occ_iff a i hi).1 e
    rw [ho] at this
    cases this
  rw [spec_ReadV6.l0, w1, w2, if_pos (by omega), if_pos (by omega), if_pos (by omega), if_pos (by omega), Int.toNat_natCast, Int.toNat_natCast, if_neg hn]
theorem l0_skip (a : ByteArray) (ha : a.size ≤ 100) : ∀ (d i k : Nat), (∀ j, i ≤ j → j < i + d → j + 1 < a.size ∧ Lib.occAt (L a) [58, 58] j = false) → spec_ReadV6.l0 (k + d) a (i : Int) = spec_ReadV6.l0 k a ((i + d : Nat) : Int)
  | 0, i, k, _ => rfl
  | d + 1, i, k, h => by
    obtain ⟨h1, h2⟩ := h i (Nat.le_refl _) (by omega)
    rw [← Nat.add_assoc, l0_step a ha i (k + d) h1 h2, l0_skip a ha d (i + 1) k (fun j h3 h4 => h j (by omega) (by omega)), show i + 1 + d = i + (d + 1) by omega]
/-- What both answer where a '::' stands. -/
def two (g h : ByteArray × Bool) : ByteArray × Int := if g.2 = true ∧ h.2 = true ∧ g.1.size + h.1.size ≤ 14 then (g.1 ++ B (List.replicate (16 - g.1.size - h.1.size) 0) ++ h.1, 0) else (⟨#[]⟩, 7)
def one (g : ByteArray × Bool) : ByteArray × Int := if g.2 = true ∧ g.1.size = 16 then (g.1, 0) else (⟨#[]⟩, 7)
theorem spec_two (g h : ByteArray × Bool) (hg : g.1.size ≤ 1000) (hh : h.1.size ≤ 1000) (k : Nat) (hk : 30 ≤ k) : (if g.2 = true then (if h.2 = true then (spec_ReadV6.j1 k g.1 h.1 (decide ((wrap64 ((g.1.size : Int) + (h.1.size : Int))) > 14))) else (spec_ReadV6.j1 k g.1 h.1 true)) else (spec_ReadV6.j1 k g.1 h.1 true)) = some (two g h) := by
  obtain ⟨k, rfl⟩ : ∃ m, k = m + 1 := ⟨k - 1, by omega⟩
  obtain ⟨x, p⟩ := g
  obtain ⟨y, q⟩ := h
  simp only at hg hh
  have bad : spec_ReadV6.j1 (k + 1) x y true = some (⟨#[]⟩, 7) := by rw [spec_ReadV6.j1, if_pos rfl]
  unfold two
  cases p with
  | false => simp [bad]
  | true =>
    cases q with
    | false => simp [bad]
    | true =>
      simp only [if_true, true_and]
      rw [w64 (by omega) (by omega)]
      by_cases hs : x.size + y.size ≤ 14
      · rw [show decide ((x.size : Int) + (y.size : Int) > 14) = false from decide_eq_false (by omega), spec_ReadV6.j1, if_neg (by decide), if_pos hs, l1_pad y (by omega) (16 - x.size - y.size) k x (by omega) (by omega)]
      · rw [show decide ((x.size : Int) + (y.size : Int) > 14) = true from decide_eq_true (by omega), bad, if_neg hs]
theorem spec_one (g : ByteArray × Bool) : (if g.2 = true then (if (g.1.size : Int) = 16 then (some (g.1, (0 : Int))) else (some ((⟨#[]⟩ : ByteArray), 7))) else (some ((⟨#[]⟩ : ByteArray), 7))) = some (one g) := by
  obtain ⟨x, p⟩ := g
  unfold one
  cases p with
  | false => simp
  | true =>
    simp only [if_true, true_and]
    by_cases h : x.size = 16
    · rw [if_pos (by omega), if_pos h]
    · rw [if_neg (by omega), if_neg h]
theorem impl_two (g h : ByteArray × Bool) (hg : g.1.size ≤ 1000) (hh : h.1.size ≤ 1000) (rt : ByteArray) (hc : h.2 = true → strings_HasPrefix.f rt (⟨#[58]⟩ : ByteArray) = some false) : (if g.2 = true then (if h.2 = true then (if (wrap64 ((g.1.size : Int) + (h.1.size : Int))) > 14 then (some ((⟨#[]⟩ : ByteArray), (7 : Int))) else ((strings_HasPrefix.f rt (⟨#[58]⟩ : ByteArray)).bind fun t110 => (if t110 = true then (some ((⟨#[]⟩ : ByteArray), 7)) else ((strings_Repeat.f (⟨#[0]⟩ : ByteArray) (wrap64 ((wrap64 (16 - (g.1.size : Int))) - (h.1.size : Int)))).bind fun t111 => (if g.1.size + t111.size ≤ 9223372036854775807 then (if (g.1 ++ t111).size + h.1.size ≤ 9223372036854775807 then (some ((g.1 ++ t111) ++ h.1, 0)) else (none)) else (none)))))) else (some ((⟨#[]⟩ : ByteArray), 7))) else (some ((⟨#[]⟩ : ByteArray), 7))) = some (two g h) := by
  obtain ⟨x, p⟩ := g
  obtain ⟨y, q⟩ := h
  simp only at hg hh hc
  unfold two
  cases p with
  | false => simp
  | true =>
    cases q with
    | false => simp
    | true =>
      simp only [if_true, true_and]
      rw [w64 (by omega) (by omega)]
      by_cases hs : x.size + y.size ≤ 14
      · have hr : strings_Repeat.f (⟨#[0]⟩ : ByteArray) (((16 - x.size - y.size : Nat)) : Int) = some (B (List.replicate (16 - x.size - y.size) 0)) := by
          unfold strings_Repeat.f
          rw [if_pos ⟨by omega, by omega, by decide⟩, Int.toNat_natCast]
          congr 1
          apply L_inj
          rw [L_B]
          show (Lib.repeatL [0] _).toArray.toList = _
          rw [rep_zero]
        have e : wrap64 ((wrap64 (16 - (x.size : Int))) - (y.size : Int)) = ((16 - x.size - y.size : Nat) : Int) := by
          rw [w64 (x := 16 - (x.size : Int)) (by omega) (by omega), w64 (by omega) (by omega)]
          omega
        have hz : (B (List.replicate (16 - x.size - y.size) (0 : UInt8))).size = 16 - x.size - y.size := by rw [size_L, L_B, List.length_replicate]
        rw [if_neg (by omega), hc rfl, Option.bind_some, if_neg (by decide), e, hr, Option.bind_some, if_pos (by rw [hz]; omega), if_pos (by rw [ByteArray.size_append, hz]; omega), if_pos hs]
      · rw [if_pos (by omega), if_neg hs]
theorem w64m {x : Int} {m : Nat} (h : x = (m : Int)) (hm : m ≤ 1000) : wrap64 x = (m : Int) := by
  rw [h]
  exact w64 (by omega) (by omega)
theorem take_size (a : ByteArray) (ha : a.size ≤ 100) (i : Nat) (hi2 : i + 1 < a.size) : ((L a).take i).length ≤ 100 ∧ ((L a).drop (i + 2)).length ≤ 100 := by
  have hz := size_L a
  rw [List.length_take, List.length_drop]
  omega
theorem spec_found (a : ByteArray) (ha : a.size ≤ 100) (i : Nat) (hi2 : i + 1 < a.size) (hocc : Lib.occAt (L a) [58, 58] i = true) (hno : ∀ j, j < i → Lib.occAt (L a) [58, 58] j = false) :
    spec_ReadV6.l0 2000000 a 0 = some (two (gg false ((L a).take i)) (gg true ((L a).drop (i + 2)))) := by
  have hsk := l0_skip a ha i 0 (2000000 - i) (fun j _ hj => ⟨by omega, hno j (by omega)⟩)
  rw [show 2000000 - i + i = 2000000 by omega, Nat.zero_add] at hsk
  have e0 : spec_ReadV6.l0 2000000 a 0 = _ := hsk
  obtain ⟨K, hK⟩ : ∃ K, 2000000 - i = K + 1 := ⟨2000000 - i - 1, by omega⟩
  have hKb : 1300000 ≤ K := by omega
  have hK30 : 30 ≤ K := by omega
  have c1 : ((i + 1 : Nat) : Int) < (a.size : Int) := by omega
  have c2 : (0 : Int) ≤ (i : Int) := by omega
  have c3 : (i : Int) ≤ ((i + 2 : Nat) : Int) := by omega
  have c4 : ((i + 2 : Nat) : Int) ≤ (a.size : Int) := by omega
  have c5 : (i : Int) ≤ (a.size : Int) := by omega
  have c6 : (0 : Int) ≤ ((i + 2 : Nat) : Int) := by omega
  have p1 : (i : Int) + 1 = ((i + 1 : Nat) : Int) := by omega
  have p2 : (i : Int) + 2 = ((i + 2 : Nat) : Int) := by omega
  have m1 : i + 1 ≤ 1000 := by omega
  have m2 : i + 2 ≤ 1000 := by omega
  have w1 : wrap64 ((i : Int) + 1) = ((i + 1 : Nat) : Int) := w64m p1 m1
  have w2 : wrap64 ((i : Int) + 2) = ((i + 2 : Nat) : Int) := w64m p2 m2
  obtain ⟨tA, tB⟩ := take_size a ha i hi2
  have hA : L (a.extract 0 i) = (L a).take i := by rw [L_extract]; simp
  have hB : L (a.extract (i + 2) a.size) = (L a).drop (i + 2) := by
    rw [L_extract]
    apply List.take_of_length_le
    rw [List.length_drop, size_L]
    exact Nat.le_refl _
  have zA : (a.extract 0 i).size ≤ 100 := by rw [size_L, hA]; exact tA
  have zB : (a.extract (i + 2) a.size).size ≤ 100 := by rw [size_L, hB]; exact tB
  have sA := gg_size false _ tA
  have sB := gg_size true _ tB
  rw [e0, hK, spec_ReadV6.l0, w1, w2, if_pos c1, if_pos c2, if_pos c3, if_pos c4, Int.toNat_natCast, Int.toNat_natCast, if_pos ((occ_iff a i hi2).2 hocc), if_pos c5, spec_g _ zA false K hKb, Option.bind_some, if_pos c6, spec_g _ zB true K hKb, Option.bind_some, hA, hB]
  exact spec_two _ _ sA sB K hK30
theorem impl_found (a : ByteArray) (ha : a.size ≤ 100) (i : Nat) (hi2 : i + 1 < a.size) (hi : Lib.index (L a) [58, 58] = (i : Int)) :
    impl_ReadV6.j0 2000000 a (a.toList == ([] : List UInt8)) = some (two (gg false ((L a).take i)) (gg true ((L a).drop (i + 2)))) := by
  have hz := size_L a
  have hne : L a ≠ [] := fun e => by
    have h0 : a.size = 0 := by rw [hz, e]; rfl
    omega
  have hbig : a.size < 4294967281 := by omega
  have hcut : strings_Cut.f a (⟨#[58, 58]⟩ : ByteArray) = some (B ((L a).take i), B ((L a).drop (i + 2)), true) := by
    unfold strings_Cut.f
    rw [if_pos hbig]
    have hc : Lib.cut a.data.toList [58, 58] = ((L a).take i, (L a).drop (i + 2), true) := by
      unfold Lib.cut
      rw [show Lib.index a.data.toList [58, 58] = (i : Int) from hi, if_pos (Int.natCast_nonneg _), Int.toNat_natCast]
      rfl
    show some _ = _
    rw [show (⟨#[58, 58]⟩ : ByteArray).data.toList = [58, 58] from rfl, hc]
    rfl
  obtain ⟨tA, tB⟩ := take_size a ha i hi2
  have yA : (B ((L a).take i)).size ≤ 100 := by rw [size_L, L_B]; exact tA
  have yB : (B ((L a).drop (i + 2))).size ≤ 100 := by rw [size_L, L_B]; exact tB
  have sA := gg_size false _ tA
  have sB := gg_size true _ tB
  have hnil : (a.toList == ([] : List UInt8)) = false := by
    rw [toL]
    cases hh : L a with
    | nil => exact absurd hh hne
    | cons c t => rfl
  rw [hnil, show (2000000 : Nat) = 1999999 + 1 from rfl, impl_ReadV6.j0, if_neg Bool.false_ne_true, hcut, Option.bind_some, if_pos rfl]
  simp only
  rw [impl_g _ yA false 1999999 (by decide), Option.bind_some, impl_g _ yB true 1999999 (by decide), Option.bind_some, L_B, L_B]
  refine impl_two _ _ sA sB _ (fun ht => ?_)
  unfold strings_HasPrefix.f
  congr 1
  show Lib.hasPrefix (L (B ((L a).drop (i + 2)))) [58] = false
  rw [L_B]
  generalize (L a).drop (i + 2) = q at ht
  cases q with
  | nil => rfl
  | cons c t =>
    by_cases hc : c = 58
    · rw [hc, gg_colon] at ht
      cases ht
    · have : ¬ ((58 : UInt8) = c) := fun e => hc e.symm
      simp [Lib.hasPrefix, List.isPrefixOf, this]
theorem FnExactReadV6 : laws_FnExactReadV6.Pure := by
  intro a _
  refine ⟨2000000, ?_⟩
  unfold laws_FnExactReadV6.f
  by_cases hbig : (a.size : Int) > 1048576
  · rw [if_pos hbig]
  · rw [if_neg hbig]
    have same : ∃ r : ByteArray × Int, spec_ReadV6.f 2000000 a = some r ∧ impl_ReadV6.f 2000000 a = some r := by
      unfold spec_ReadV6.f impl_ReadV6.f
      by_cases h100 : (a.size : Int) > 100
      · rw [if_pos h100, if_pos h100, show (2000000 : Nat) = 1999999 + 1 from rfl, impl_ReadV6.j0, if_pos rfl]
        exact ⟨_, rfl, rfl⟩
      · rw [if_neg h100, if_neg h100]
        have ha : a.size ≤ 100 := by omega
        have hz := size_L a
        rcases Lib.index_spec (L a) [58, 58] with ⟨hi, hno⟩ | ⟨i, hi, _, hocc, hno⟩
        · -- no '::'
          have hs : spec_ReadV6.l0 2000000 a 0 = some (one (gg true (L a))) := by
            have hsk := l0_skip a ha (a.size - 1) 0 (2000000 - (a.size - 1)) (fun j _ hj => ⟨by omega, hno j (by omega)⟩)
            rw [show 2000000 - (a.size - 1) + (a.size - 1) = 2000000 by omega, Nat.zero_add] at hsk
            have e0 : spec_ReadV6.l0 2000000 a 0 = _ := hsk
            obtain ⟨K, hK⟩ : ∃ K, 2000000 - (a.size - 1) = K + 1 := ⟨2000000 - (a.size - 1) - 1, by omega⟩
            rw [e0, hK, spec_ReadV6.l0, w64 (by omega) (by omega), if_neg (by omega), spec_g a ha true K (by omega), Option.bind_some, spec_one]
          refine ⟨_, hs, ?_⟩
          rw [show (2000000 : Nat) = 1999999 + 1 from rfl, impl_ReadV6.j0]
          by_cases he : L a = []
          · rw [if_pos (by rw [toL, he]; rfl)]
            rw [show gg true (L a) = (⟨#[]⟩, true) from by unfold gg; rw [if_pos he]]
            rfl
          · have hcut : strings_Cut.f a (⟨#[58, 58]⟩ : ByteArray) = some (a, ⟨#[]⟩, false) := by
              unfold strings_Cut.f
              rw [if_pos (by omega)]
              have hc : Lib.cut a.data.toList [58, 58] = (L a, [], false) := by
                unfold Lib.cut
                rw [if_neg (by rw [show Lib.index a.data.toList [58, 58] = -1 from hi]; decide)]
                rfl
              show some _ = _
              rw [show (⟨#[58, 58]⟩ : ByteArray).data.toList = [58, 58] from rfl, hc]
              rfl
            rw [if_neg (by rw [toL]; simpa using he), hcut, Option.bind_some, if_neg Bool.false_ne_true, impl_g a ha true 1999999 (by decide), Option.bind_some, spec_one]
        · -- the first '::' stands at i
          have hroom := Lib.index_room (L a) [58, 58] (by omega)
          rw [hi] at hroom
          simp only [List.length_cons, List.length_nil] at hroom
          have hi2 : i + 1 < a.size := by omega
          exact ⟨_, spec_found a ha i hi2 hocc hno, impl_found a ha i hi2 hi⟩
    obtain ⟨r, h1, h2⟩ := same
    rw [h1, h2]
    simp

end Go.Proofs.YtlekdblkfidciaaDoor.Pure
namespace Go.Proofs.YtlekdblkfidciaaDoor.fnExactReadV6
open Go.ChangeShapes Go.WideShapes Go.ChangeAt Go.RowKit
open Go.ChangeMaps (open_string shut_string)
set_option linter.unusedVariables false
abbrev laidS : List (String × DataW Unit) := [("math/bits.deBruijn32tab", Rows.laid_math_bits_deBruijn32tab), ("math/bits.deBruijn64tab", Rows.laid_math_bits_deBruijn64tab), ("internal/strconv.uint64pow10", Rows.laid_internal_strconv_uint64pow10), ("unicode/utf8.acceptRanges", Rows.laid_unicode_utf8_acceptRanges), ("strconv.ErrRange", Rows.laid_strconv_ErrRange), ("strconv.ErrSyntax", Rows.laid_strconv_ErrSyntax), ("unicode/utf8.first", Rows.laid_unicode_utf8_first)]
theorem own : ownKnob Tryd.prog.godebug = none := by kernel_rfl
theorem gE : Tryd.prog.globalNamed "strconv.ErrSyntax" = some 1 := by kernel_rfl
theorem tE : (Tryd.prog.globals[1]?).map (·.type) = some 39 := by kernel_rfl
theorem starE : "*" ++ "errors.errorString" = "*errors.errorString" := by decide
theorem rowE (u : TypeId) (h : Tryd.prog.typeName? 3 u = some "*errors.errorString") : u = 87 :=
  typeName_ptr_named (nm := "errors.errorString") (by rw [starE]; kernel_rfl) (by kernel_rfl) (by decide) u (by rw [starE]; exact h)
set_option maxRecDepth 100000 in
theorem globE_of_laid {W : World} (h : laidMetH Tryd.prog laidS W) : F.GlobE W := by
  rw [MakeChecks.laidMetH_plain _ _ _ (by kernel_rfl)] at h
  obtain ⟨a1, s1, hv1, hc1, hs1, hz1⟩ := laid_sentinel h.tail.tail.tail.tail.tail gE tE Tryd.underlying39 rowE Tryd.underlying87 Tryd.underlying89 rfl rfl Tryd.underlying9 (by kernel_rfl) (by kernel_rfl)
  exact ⟨_, by simpa using World.var?_cell gE hv1 0, Or.inr ⟨_, _, rfl⟩⟩
set_option maxRecDepth 100000 in
theorem lifted (os : Os) (started : os.Started) (H : Type) (enc : TypeId × Value → H) :
    ReturnsInHanded {} Tryd.checked os 3 .any (fun w args => (Rows.fnExactReadV6Spec.pre enc Tryd.prog Tryd.f3 [] false w args ∧ laidMetH Tryd.prog laidS w) ∧ sizedMet enc Tryd.prog Tryd.f3 (OpenSpec.ofChange Rows.fnExactReadV6Spec) false w args) (Rows.fnExactReadV6Spec.post enc Tryd.prog Tryd.f3 false true false false) := by
  refine XShape.shaped_and (C := Tryd.checked) (X := fun w _ => laidMetH Tryd.prog laidS w) (fun _ _ _ hh h => h.of_heap hh) own started (by kernel_rfl) Tryd.func3
    (ChangeSpec.witness_shaped (enc := enc) (C := Tryd.checked) (os := os) (X := fun w _ => laidMetH Tryd.prog laidS w) false (World.laidAll Tryd.prog os laidS) #[.string ByteArray.empty] 8 (World.laidAll_os _ _ _) (World.shaped_of_ZipB (by kernel_rfl) (by kernel_rfl)) (by kernel_rfl) (by kernel_rfl) (by kernel_rfl)
      (by rw [MakeChecks.laidMetH_plain _ _ _ (by kernel_rfl)]; exact laidMet_laidAll _ (by kernel_rfl) (by kernel_rfl))) ?_
  intro W base args ds gs before hval0 hW hcnd hsz0 hsh hL _
  have hsz : (DataW.weightsEach Tryd.prog (Tryd.f3.params.toList ++ Rows.fnExactReadV6Spec.plain.varTypes Tryd.prog) (ds ++ gs)).all (· ≤ reachBytes) = true := hsz0
  have hval : ∀ (j : Nat) t v, Tryd.f3.params[j]? = some t → args[j]? = some v → Value.okWide Tryd.prog W .any base t v := hval0
  have hW' := hW
  obtain ⟨p, q, hA0, hV, rfl, hfz, hnd⟩ := hW
  have hA : DataW.TrodAll enc Tryd.prog W 0 (fun _ => true) true Tryd.f3.params.toList args.toList ds p := hA0
  rw [Tryd.params3] at hA hval hsz
  obtain ⟨v0, vs0, d0, ds0, p0, q0, hargs, rfl, rfl, h0, r0⟩ := trodAll_cons hA
  obtain ⟨rfl, rfl, rfl⟩ := trodAll_nil r0
  obtain rfl : args = #[v0] := by cases args; simp_all
  obtain ⟨rfl, rfl⟩ := trodVars_none hV
  obtain ⟨a0, rfl, rfl, rfl, y0⟩ := open_string Tryd.underlying9 (hval 0 9 v0 rfl rfl) h0
  have w0 : a0.size ≤ 140737488351232 := by
    have z := sized_string hsz (j := 0) (t := 9) rfl rfl
    rw [Array.length_toList] at z
    exact z
  clear hA0 hval0 hsz0 hsz
  refine (F.laws_FnExactReadV6.walk Pure.FnExactReadV6 a0 W w0 (XShape.len_of_shape hsh) (globE_of_laid hL)).mono fun e W' ⟨he, bel⟩ => ?_
  subst he
  exact ⟨_, rfl, _, _, _, [], _, [], hW', trodAll_mk1 (shut_bool Tryd.underlying4 _), (trodAll_cons_mk (shut_string Tryd.underlying9 y0) trodAll_mk0), rfl, bel.frame _, fun h => by cases h⟩
theorem over : Rows.fnExactReadV6Row.holds Tryd.pinned (OpenSpec.ofChange Rows.fnExactReadV6Spec) :=
  OpenClaim.holds_of_wide 3 Tryd.f3 rfl rfl rfl rfl rfl rfl rfl ⟨rfl, rfl, rfl, rfl, rfl⟩ rfl rfl rfl rfl rfl (by kernel_rfl) Tryd.func3 (by kernel_rfl)
    (of_decide_eq_true (by kernel_rfl)) (by unfold Func.isWrapper; first | (rw [if_pos (by decide +kernel)]; kernel_rfl) | (rw [if_neg (by decide +kernel)]; exact ⟨rfl, rfl⟩))
    (fun os started H enc _ => lifted os started H enc)
end Go.Proofs.YtlekdblkfidciaaDoor.fnExactReadV6
namespace Go.Proofs.YtlekdblkfidciaaDoor
open Go
/-- The tied card. -/
theorem fnExactReadV6_holds : Rows.FnExactReadV6CardSaid :=
  Claim7.holds_tied_plain_at .later [] [.data, .data, .data, .data, .sentinel, .sentinel, .pinned] true (true, "bc79b317809a96736f001e8707681160269fbd065cb0ec4631e0772efeefb019") true
    fnExactReadV6.over (fun _ h => by cases h) (by kernel_rfl) (fun _ h => by cases h) fnExactReadV6_row_tie rfl ⟨rfl, rfl⟩ (by kernel_rfl) rfl
    (fun f fn hf hfn => by
      obtain rfl : f = 3 := Option.some.inj ((show Tryd.prog.funcNamed "loop.example/s01858/laws.FnExactReadV6" = some 3 by kernel_rfl).symm.trans hf) |>.symm
      obtain rfl : fn = Tryd.f3 := (Option.some.inj (Tryd.func3.symm.trans hfn)).symm
      exact ⟨by kernel_rfl, fun j t ht => by
        rw [Tryd.params3] at ht
        have hm : t ∈ [9] := by simpa using Array.mem_of_getElem? ht
        have hall : ([9].all fun u => !Tryd.prog.wantsStandIn u) = true := by kernel_rfl
        exact (show Tryd.prog.wantsStandIn t = false by simpa using List.all_eq_true.1 hall t hm)⟩)
    (by kernel_rfl)
#print axioms fnExactReadV6_holds
end Go.Proofs.YtlekdblkfidciaaDoor
