/- Part 4 of 4 of the proof of FnTail: what each Go function on its way computes, that the Go code does just this, and what the law says of it. No condition beyond the statement's own. -/
import Derived.Lib.Bytes
import Derived.Lib.Bytealg
import Derived.Test.YtpbmnokmpihnjaaRows
import Derived.WalkKit
import Derived.ProofKit
import Derived.OpenShut
import Derived.ShutString
import Derived.ChangeOld
import Derived.Below
import Derived.SizedLaws
import Derived.Test.YtpbmnokmpihnjaaMFnTail3
namespace Go.Proofs.Ytpbmnokmpihnjaa.F
open Go Go.Shelf Go.RowKit Go.Proofs.YtpbmnokmpihnjaaW.PrintWords Go.Proofs.YtpbmnokmpihnjaaW.PrintLast Go.Proofs.YtpbmnokmpihnjaaW.PrintMore
attribute [local go_sem] max2_int min2_int max_two min_two max_three min_three max_four min_four   -- for this text's walks alone
set_option linter.unusedVariables false
set_option linter.unusedSimpArgs false

/-! ### spec_l01Near: function 49 -/
def spec_l01Near.j0 : Nat → ByteArray → List ByteArray → Int → Bool → List Int → Int → Int → Option (ByteArray × Int × Int)
  | 0, _, _, _, _, _, _, _ => none
  | k + 1, x1, x5, x17, x31, x1000, x1001, x1002 => if x31 = true then ((spec_l01Label.f k x1000 x1001 x1002).bind fun bt117 => ((some (([bt117.1] : List ByteArray) : List ByteArray)).bind fun y120 => (if y120.length + x5.length < 8796093022208 then ((spec_l01Join.f (y120 ++ x5)).bind fun t126 => (if (t126.size : Int) > 255 then (some (x1, bt117.2.1, bt117.2.2)) else (some (t126, bt117.2.1, bt117.2.2)))) else (none)))) else (if x17 = 4 then (if (x5.length : Int) > 0 then ((spec_l01Label.f k x1000 x1001 x1002).bind fun bt127 => (if 0 < (x5.length : Int) then ((spec_l01Join.f (x5.set (0 : Int).toNat bt127.1)).bind fun t131 => (if (t131.size : Int) > 255 then (some (x1, bt127.2.1, bt127.2.2)) else (some (t131, bt127.2.1, bt127.2.2)))) else (none))) else ((spec_l01Join.f x5).bind fun t132 => (if (t132.size : Int) > 255 then (some (x1, x1001, x1002)) else (some (t132, x1001, x1002))))) else ((spec_l01Join.f x5).bind fun t133 => (if (t133.size : Int) > 255 then (some (x1, x1001, x1002)) else (some (t133, x1001, x1002)))))
def spec_l01Near.f (k : Nat) (s0_0 : List Int) (s0_1 : Int) (s0_2 : Int) (a1 : ByteArray) : Option (ByteArray × Int × Int) := (spec_l01Split.f k a1).bind fun bt101 => (if bt101.2 = true then ((spec_l01Next.f s0_0 s0_1 s0_2 5).bind fun bt105 => (if bt105.1 = 0 then ((spec_l01Case.f k s0_0 bt105.2.1 bt105.2.2 a1).bind fun bt108 => (some (bt108.1, bt108.2.1, bt108.2.2))) else (if bt105.1 = 1 then (if (bt101.1.length : Int) > 0 then (if 1 ≤ (bt101.1.length : Int) then ((spec_l01Join.f (bt101.1.drop 1)).bind fun t115 => (some (t115, bt105.2.1, bt105.2.2))) else (none)) else ((spec_l01Join.f bt101.1).bind fun t116 => (if (t116.size : Int) > 255 then (some (a1, bt105.2.1, bt105.2.2)) else (some (t116, bt105.2.1, bt105.2.2))))) else (if bt105.1 = 2 then (spec_l01Near.j0 k a1 bt101.1 bt105.1 (bt105.1 == 2) s0_0 bt105.2.1 bt105.2.2) else (spec_l01Near.j0 k a1 bt101.1 bt105.1 (bt105.1 == 3) s0_0 bt105.2.1 bt105.2.2))))) else (some (a1, s0_1, s0_2)))
theorem spec_l01Near.mono_l : ∀ k, (∀ y0 y1 y2 y3 y4 y5 y6, LeO (spec_l01Near.j0 k y0 y1 y2 y3 y4 y5 y6) (spec_l01Near.j0 (k + 1) y0 y1 y2 y3 y4 y5 y6))
  | 0 => fun _ _ _ _ _ _ _ r h => by simp [spec_l01Near.j0] at h
  | k + 1 => by
    have ih0 := spec_l01Near.mono_l k
    · intro y0 y1 y2 y3 y4 y5 y6
      unfold spec_l01Near.j0
      repeat' first
      | (with_reducible exact ih0 _ _ _ _ _ _ _)
      | (with_reducible exact spec_l01Case.mono _ _ _ _ _)
      | (with_reducible exact spec_l01Label.mono _ _ _ _)
      | (with_reducible exact spec_l01Split.mono _ _)
      | (with_reducible exact LeO.refl _)
      | (with_reducible exact LeO.none _)
      | (with_reducible refine LeO.ite ?_ ?_)
      | (with_reducible refine LeO.bind ?_ (fun _ => ?_))
      | exact ih0 _ _ _ _ _ _ _
      | exact spec_l01Case.mono _ _ _ _ _
      | exact spec_l01Label.mono _ _ _ _
      | exact spec_l01Split.mono _ _
      | exact LeO.none _
      | refine LeO.ite ?_ ?_
      | refine LeO.bind ?_ (fun _ => ?_)
theorem spec_l01Near.mono : ∀ a0 a1 a2 a3 k, LeO (spec_l01Near.f k a0 a1 a2 a3) (spec_l01Near.f (k + 1) a0 a1 a2 a3) := by
  intro a0 a1 a2 a3 k
  have ih0 := spec_l01Near.mono_l k
  unfold spec_l01Near.f
  repeat' first
      | (with_reducible exact ih0 _ _ _ _ _ _ _)
      | (with_reducible exact spec_l01Case.mono _ _ _ _ _)
      | (with_reducible exact spec_l01Label.mono _ _ _ _)
      | (with_reducible exact spec_l01Split.mono _ _)
      | (with_reducible exact LeO.refl _)
      | (with_reducible exact LeO.none _)
      | (with_reducible refine LeO.ite ?_ ?_)
      | (with_reducible refine LeO.bind ?_ (fun _ => ?_))
      | exact ih0 _ _ _ _ _ _ _
      | exact spec_l01Case.mono _ _ _ _ _
      | exact spec_l01Label.mono _ _ _ _
      | exact spec_l01Split.mono _ _
      | exact LeO.none _
      | refine LeO.ite ?_ ?_
      | refine LeO.bind ?_ (fun _ => ?_)
set_option maxHeartbeats 8000000 in
set_option maxRecDepth 100000 in
theorem spec_l01Near.calls (k : Nat) (g : Nat) (s0_0 : List Int) (s0_1 : Int) (s0_2 : Int) (a1 : ByteArray) (r1 : ByteArray) (r2 : Int) (r3 : Int) (w0 w : World) (hI : IsS64 w0 w g s0_0 s0_1 s0_2) (hB : Below w0.heap.size w0 w) (h : spec_l01Near.f k s0_0 s0_1 s0_2 a1 = some (r1, r2, r3)) :
    Calls Try.prog 49 #[.pointer (some ⟨g, 0, none⟩), .string a1] w fun e w' => e = .returned (.string r1) ∧ IsS64 w0 w' g s0_0 r2 r3 ∧ Below w0.heap.size w0 w' ∧ KeepBut w w' g none := by
  have HI0 := Aside0.mk hI
  have HK := Aside0.mk (KeepBut.refl w g none)
  have HL := Aside0.mk hB.size
  clear hI
  have HW0 := Aside0.mk hB.size
  have HB := Aside0.mk hB
  clear hB
  have H : ((spec_l01Split.f k a1).bind fun bt101 => (if bt101.2 = true then ((spec_l01Next.f s0_0 s0_1 s0_2 5).bind fun bt105 => (if bt105.1 = 0 then ((spec_l01Case.f k s0_0 bt105.2.1 bt105.2.2 a1).bind fun bt108 => (some (bt108.1, bt108.2.1, bt108.2.2))) else (if bt105.1 = 1 then (if (bt101.1.length : Int) > 0 then (if 1 ≤ (bt101.1.length : Int) then ((spec_l01Join.f (bt101.1.drop 1)).bind fun t115 => (some (t115, bt105.2.1, bt105.2.2))) else (none)) else ((spec_l01Join.f bt101.1).bind fun t116 => (if (t116.size : Int) > 255 then (some (a1, bt105.2.1, bt105.2.2)) else (some (t116, bt105.2.1, bt105.2.2))))) else (if bt105.1 = 2 then (spec_l01Near.j0 k a1 bt101.1 bt105.1 (bt105.1 == 2) s0_0 bt105.2.1 bt105.2.2) else (spec_l01Near.j0 k a1 bt101.1 bt105.1 (bt105.1 == 3) s0_0 bt105.2.1 bt105.2.2))))) else (some (a1, s0_1, s0_2)))) = some (r1, r2, r3) := h
  clear h
  replace H := Option.bind_eq_some_iff.mp H
  obtain ⟨⟨t101, t102⟩, A30, H⟩ := H
  replace H : (if t102 = true then ((spec_l01Next.f s0_0 s0_1 s0_2 5).bind fun bt105 => (if bt105.1 = 0 then ((spec_l01Case.f k s0_0 bt105.2.1 bt105.2.2 a1).bind fun bt108 => (some (bt108.1, bt108.2.1, bt108.2.2))) else (if bt105.1 = 1 then (if (t101.length : Int) > 0 then (if 1 ≤ (t101.length : Int) then ((spec_l01Join.f (t101.drop 1)).bind fun t115 => (some (t115, bt105.2.1, bt105.2.2))) else (none)) else ((spec_l01Join.f t101).bind fun t116 => (if (t116.size : Int) > 255 then (some (a1, bt105.2.1, bt105.2.2)) else (some (t116, bt105.2.1, bt105.2.2))))) else (if bt105.1 = 2 then (spec_l01Near.j0 k a1 t101 bt105.1 (bt105.1 == 2) s0_0 bt105.2.1 bt105.2.2) else (spec_l01Near.j0 k a1 t101 bt105.1 (bt105.1 == 3) s0_0 bt105.2.1 bt105.2.2))))) else (some (a1, s0_1, s0_2))) = some (r1, r2, r3) := H
  have A3 := Aside0.mk A30
  clear A30
  by_cases c4 : t102 = true
  · subst c4
    have H1 : ((spec_l01Next.f s0_0 s0_1 s0_2 5).bind fun bt105 => (if bt105.1 = 0 then ((spec_l01Case.f k s0_0 bt105.2.1 bt105.2.2 a1).bind fun bt108 => (some (bt108.1, bt108.2.1, bt108.2.2))) else (if bt105.1 = 1 then (if (t101.length : Int) > 0 then (if 1 ≤ (t101.length : Int) then ((spec_l01Join.f (t101.drop 1)).bind fun t115 => (some (t115, bt105.2.1, bt105.2.2))) else (none)) else ((spec_l01Join.f t101).bind fun t116 => (if (t116.size : Int) > 255 then (some (a1, bt105.2.1, bt105.2.2)) else (some (t116, bt105.2.1, bt105.2.2))))) else (if bt105.1 = 2 then (spec_l01Near.j0 k a1 t101 bt105.1 (bt105.1 == 2) s0_0 bt105.2.1 bt105.2.2) else (spec_l01Near.j0 k a1 t101 bt105.1 (bt105.1 == 3) s0_0 bt105.2.1 bt105.2.2))))) = some (r1, r2, r3) := by rw [if_pos rfl] at H; exact H
    clear H
    have H := H1
    clear H1
    replace H := Option.bind_eq_some_iff.mp H
    obtain ⟨⟨t105, t106, t107⟩, A50, H⟩ := H
    replace H : (if t105 = 0 then ((spec_l01Case.f k s0_0 t106 t107 a1).bind fun bt108 => (some (bt108.1, bt108.2.1, bt108.2.2))) else (if t105 = 1 then (if (t101.length : Int) > 0 then (if 1 ≤ (t101.length : Int) then ((spec_l01Join.f (t101.drop 1)).bind fun t115 => (some (t115, t106, t107))) else (none)) else ((spec_l01Join.f t101).bind fun t116 => (if (t116.size : Int) > 255 then (some (a1, t106, t107)) else (some (t116, t106, t107))))) else (if t105 = 2 then (spec_l01Near.j0 k a1 t101 t105 (t105 == 2) s0_0 t106 t107) else (spec_l01Near.j0 k a1 t101 t105 (t105 == 3) s0_0 t106 t107)))) = some (r1, r2, r3) := H
    have A5 := Aside0.mk A50
    clear A50
    by_cases c6 : t105 = 0
    · rw [if_pos c6] at H
      have c6b0 : (t105 == 0) = true := beq_iff_eq.mpr c6
      have c6b1 : (t105 != 0) = false := bne_eq_false_iff_eq.mpr c6
      clear c6
      replace H := Option.bind_eq_some_iff.mp H
      obtain ⟨⟨t108, t109, t110⟩, A70, H⟩ := H
      replace H : (some (t108, t109, t110)) = some (r1, r2, r3) := H
      have A7 := Aside0.mk A70
      clear A70
      simp only [Option.some.injEq, Prod.mk.injEq] at H
      obtain ⟨rfl, rfl, rfl⟩ := H
      go_enter Try.func49, Try.ntmps49
      go_wp2_with (first | ((with_reducible refine gate_callee (f := 34) rfl ?_); refine goesL_ (some 10) rfl rfl Try.func34 (by kernel_rfl) rfl #[.string a1] rfl (by (try simp only [List.map_toArray, List.map_cons, List.map_nil]); first | done | rfl | (simp only [List.length_drop, List.length_take]; rfl)) ?_; (with_reducible refine (spec_l01Split.calls k a1 t101 true _ A3.out).mono ?_); rintro e w8 ⟨v103, rfl, ho0, hb⟩; refine ⟨_, rfl, ?_⟩; have n0_ := Aside0.mk (Kd.R_lower ho0 (keep_size (w := w) (g := g) (row := none) (by repeat (first | (with_reducible first | exact HK.out | apply KeepBut.set_ | apply keep_drewN | apply keep_drew | apply keep_alloc) | exact HK.out)))); have n1_ := Aside0.mk (IsS64.below (by repeat (first | (with_reducible first | exact HI0.out | apply IsS64.alloc | apply IsS64.drewN | apply IsS64.drew | apply IsS64.set_1 | apply IsS64.set_2) | exact HI0.out)) hb); have n2_ := Aside0.mk (KeepBut.trans (by repeat (first | (with_reducible first | exact HK.out | apply KeepBut.set_ | apply keep_drewN | apply keep_drew | apply keep_alloc) | exact HK.out)) (KeepBut.of_below hb g none) (.inl rfl)); have n3_ := Aside0.mk (below_step (by repeat (first | (with_reducible first | exact HB.out | apply below_alloc | apply pw_below_drewN | apply below_drew1 | refine below_set ?_ (IsS64.ge HI0.out)) | exact HB.out)) hb); clear HI0; clear HK; clear HB; have HO104 := n0_; have HI0 := n1_; have HK := n2_; have HB := n3_; clear n0_ n1_ n2_ n3_; (try clear hb); (try clear hb2); (try clear hk); (try clear hi); (try clear ho0)) | ((with_reducible refine gate_callee (f := 67) rfl ?_); refine goesL_ (some 17) rfl rfl Try.func67 (by kernel_rfl) rfl #[.pointer (some ⟨g, 0, none⟩), .int .i64 5] rfl (by (try simp only [List.map_toArray, List.map_cons, List.map_nil]); first | done | rfl | (simp only [List.length_drop, List.length_take]; rfl)) ?_; (with_reducible refine (spec_l01Next.calls g s0_0 s0_1 s0_2 5 t105 t106 t107 w0 _ ?side1 ?side2 A5.out).mono ?_); (case side1 => repeat (first | (with_reducible first | exact HI0.out | apply IsS64.alloc | apply IsS64.drewN | apply IsS64.drew | apply IsS64.set_1 | apply IsS64.set_2) | exact HI0.out)); (case side2 => repeat (first | (with_reducible first | exact HB.out | apply below_alloc | apply pw_below_drewN | apply below_drew1 | refine below_set ?_ (IsS64.ge HI0.out)) | exact HB.out)); rintro e w9 ⟨rfl, hi, hb, hk⟩; refine ⟨_, rfl, ?_⟩; have n0_ := Aside0.mk (Kd.R_mono (Kd.R_keep (IsS64.apart (show IsS64 w0 _ g s0_0 s0_1 s0_2 from by repeat (first | (with_reducible first | exact HI0.out | apply IsS64.alloc | apply IsS64.drewN | apply IsS64.drew | apply IsS64.set_1 | apply IsS64.set_2) | exact HI0.out)) (by (with_reducible repeat (first | apply Kd.R_alloc | apply Kd.R_drewN | apply Kd.R_drew)); exact HO104.out) (by decide)) hk (fun _ h => h.2)) (fun _ h => h.1)); have n1_ := Aside0.mk (KeepBut.trans (by repeat (first | (with_reducible first | exact HK.out | apply KeepBut.set_ | apply keep_drewN | apply keep_drew | apply keep_alloc) | exact HK.out)) hk (.inl rfl)); have n2_ := Aside0.mk (hb); have n3_ := Aside0.mk (hi); clear HO104; clear HK; clear HB; clear HI0; have HO104 := n0_; have HK := n1_; have HB := n2_; have HI0 := n3_; clear n0_ n1_ n2_ n3_; (try clear hb); (try clear hb2); (try clear hk); (try clear hi)) | ((with_reducible refine gate_callee (f := 50) rfl ?_); refine goesL_ (some 22) rfl rfl Try.func50 (by kernel_rfl) rfl #[.pointer (some ⟨g, 0, none⟩), .string a1] rfl (by (try simp only [List.map_toArray, List.map_cons, List.map_nil]); first | done | rfl | (simp only [List.length_drop, List.length_take]; rfl)) ?_; (with_reducible refine (spec_l01Case.calls k g s0_0 t106 t107 a1 t108 t109 t110 w0 _ ?side1 ?side2 A7.out).mono ?_); (case side1 => repeat (first | (with_reducible first | exact HI0.out | apply IsS64.alloc | apply IsS64.drewN | apply IsS64.drew | apply IsS64.set_1 | apply IsS64.set_2) | exact HI0.out)); (case side2 => repeat (first | (with_reducible first | exact HB.out | apply below_alloc | apply pw_below_drewN | apply below_drew1 | refine below_set ?_ (IsS64.ge HI0.out)) | exact HB.out)); rintro e w10 ⟨rfl, hi, hb, hk⟩; refine ⟨_, rfl, ?_⟩; have n0_ := Aside0.mk (Kd.R_mono (Kd.R_keep (IsS64.apart (show IsS64 w0 _ g s0_0 t106 t107 from by repeat (first | (with_reducible first | exact HI0.out | apply IsS64.alloc | apply IsS64.drewN | apply IsS64.drew | apply IsS64.set_1 | apply IsS64.set_2) | exact HI0.out)) (by (with_reducible repeat (first | apply Kd.R_alloc | apply Kd.R_drewN | apply Kd.R_drew)); exact HO104.out) (by decide)) hk (fun _ h => h.2)) (fun _ h => h.1)); have n1_ := Aside0.mk (KeepBut.trans (by repeat (first | (with_reducible first | exact HK.out | apply KeepBut.set_ | apply keep_drewN | apply keep_drew | apply keep_alloc) | exact HK.out)) hk (.inl rfl)); have n2_ := Aside0.mk (hb); have n3_ := Aside0.mk (hi); clear HO104; clear HK; clear HB; clear HI0; have HO104 := n0_; have HK := n1_; have HB := n2_; have HI0 := n3_; clear n0_ n1_ n2_ n3_; (try clear hb); (try clear hb2); (try clear hk); (try clear hi)))
      go_ret
      exact ⟨by first | rfl | (simp [errW_none, errW_some] <;> rfl) | (simp [*, errW_none, errW_some] <;> rfl), by repeat (first | (with_reducible first | exact HI0.out | apply IsS64.alloc | apply IsS64.drewN | apply IsS64.drew | apply IsS64.set_1 | apply IsS64.set_2) | exact HI0.out), by repeat (first | (with_reducible first | exact HB.out | apply below_alloc | apply pw_below_drewN | apply below_drew1 | refine below_set ?_ (IsS64.ge HI0.out)) | exact HB.out), by repeat (first | (with_reducible first | exact HK.out | apply KeepBut.set_ | apply keep_drewN | apply keep_drew | apply keep_alloc) | exact HK.out)⟩
    · rw [if_neg c6] at H
      have c6b0 : (t105 == 0) = false := beq_eq_false_iff_ne.mpr c6
      have c6b1 : (t105 != 0) = true := bne_iff_ne.mpr c6
      by_cases c11 : t105 = 1
      · rw [if_pos c11] at H
        have c11b0 : (t105 == 1) = true := beq_iff_eq.mpr c11
        have c11b1 : (t105 != 1) = false := bne_eq_false_iff_eq.mpr c11
        clear c11
        by_cases c12 : (t101.length : Int) > 0
        · rw [if_pos c12] at H
          have c12b0 : decide (0 < (t101.length : Int)) = true := decide_eq_true c12
          have c12b1 : decide (0 < t101.length) = true := decide_eq_true (by omega)
          clear c12
          by_cases c13 : 1 ≤ (t101.length : Int)
          · rw [if_pos c13] at H
            have c13b0 := eq_true c13
            have c13b1 : decide (1 ≤ (t101.length : Int)) = true := decide_eq_true c13
            clear c13
            obtain ⟨y111, hy111⟩ : ∃ y_ : List ByteArray, y_ = (t101.drop 1) := ⟨_, rfl⟩
            replace H : ((spec_l01Join.f y111).bind fun t115 => (some (t115, t106, t107))) = some (r1, r2, r3) := by first | (rw [hy111]; with_reducible exact H) | (have H2_ := (Option.bind_some _ _).symm.trans H; rw [hy111]; with_reducible exact H2_) | (have H2_ := (Option.bind_some _ _).symm.trans H; with_reducible exact H2_) | with_reducible exact H | (rw [hy111]; exact H) | exact H
            have Ny111 := Aside0.mk hy111
            clear hy111
            replace H := Option.bind_eq_some_iff.mp H
            obtain ⟨t115, A140, H⟩ := H
            replace H : (some (t115, t106, t107)) = some (r1, r2, r3) := H
            have A14 := Aside0.mk A140
            clear A140
            simp only [Option.some.injEq, Prod.mk.injEq] at H
            obtain ⟨rfl, rfl, rfl⟩ := H
            go_enter Try.func49, Try.ntmps49
            go_wp2_with (first | ((with_reducible refine gate_callee (f := 34) rfl ?_); refine goesL_ (some 10) rfl rfl Try.func34 (by kernel_rfl) rfl #[.string a1] rfl (by (try simp only [List.map_toArray, List.map_cons, List.map_nil]); first | done | rfl | (simp only [List.length_drop, List.length_take]; rfl)) ?_; (with_reducible refine (spec_l01Split.calls k a1 t101 true _ A3.out).mono ?_); rintro e w15 ⟨v103, rfl, ho0, hb⟩; refine ⟨_, rfl, ?_⟩; have n0_ := Aside0.mk (Kd.R_lower ho0 (keep_size (w := w) (g := g) (row := none) (by repeat (first | (with_reducible first | exact HK.out | apply KeepBut.set_ | apply keep_drewN | apply keep_drew | apply keep_alloc) | exact HK.out)))); have n1_ := Aside0.mk (IsS64.below (by repeat (first | (with_reducible first | exact HI0.out | apply IsS64.alloc | apply IsS64.drewN | apply IsS64.drew | apply IsS64.set_1 | apply IsS64.set_2) | exact HI0.out)) hb); have n2_ := Aside0.mk (KeepBut.trans (by repeat (first | (with_reducible first | exact HK.out | apply KeepBut.set_ | apply keep_drewN | apply keep_drew | apply keep_alloc) | exact HK.out)) (KeepBut.of_below hb g none) (.inl rfl)); have n3_ := Aside0.mk (below_step (by repeat (first | (with_reducible first | exact HB.out | apply below_alloc | apply pw_below_drewN | apply below_drew1 | refine below_set ?_ (IsS64.ge HI0.out)) | exact HB.out)) hb); clear HI0; clear HK; clear HB; have HO104 := n0_; have HI0 := n1_; have HK := n2_; have HB := n3_; clear n0_ n1_ n2_ n3_; (try clear hb); (try clear hb2); (try clear hk); (try clear hi); (try clear ho0)) | ((with_reducible refine gate_callee (f := 67) rfl ?_); refine goesL_ (some 17) rfl rfl Try.func67 (by kernel_rfl) rfl #[.pointer (some ⟨g, 0, none⟩), .int .i64 5] rfl (by (try simp only [List.map_toArray, List.map_cons, List.map_nil]); first | done | rfl | (simp only [List.length_drop, List.length_take]; rfl)) ?_; (with_reducible refine (spec_l01Next.calls g s0_0 s0_1 s0_2 5 t105 t106 t107 w0 _ ?side1 ?side2 A5.out).mono ?_); (case side1 => repeat (first | (with_reducible first | exact HI0.out | apply IsS64.alloc | apply IsS64.drewN | apply IsS64.drew | apply IsS64.set_1 | apply IsS64.set_2) | exact HI0.out)); (case side2 => repeat (first | (with_reducible first | exact HB.out | apply below_alloc | apply pw_below_drewN | apply below_drew1 | refine below_set ?_ (IsS64.ge HI0.out)) | exact HB.out)); rintro e w16 ⟨rfl, hi, hb, hk⟩; refine ⟨_, rfl, ?_⟩; have n0_ := Aside0.mk (Kd.R_mono (Kd.R_keep (IsS64.apart (show IsS64 w0 _ g s0_0 s0_1 s0_2 from by repeat (first | (with_reducible first | exact HI0.out | apply IsS64.alloc | apply IsS64.drewN | apply IsS64.drew | apply IsS64.set_1 | apply IsS64.set_2) | exact HI0.out)) (by (with_reducible repeat (first | apply Kd.R_alloc | apply Kd.R_drewN | apply Kd.R_drew)); exact HO104.out) (by decide)) hk (fun _ h => h.2)) (fun _ h => h.1)); have n1_ := Aside0.mk (KeepBut.trans (by repeat (first | (with_reducible first | exact HK.out | apply KeepBut.set_ | apply keep_drewN | apply keep_drew | apply keep_alloc) | exact HK.out)) hk (.inl rfl)); have n2_ := Aside0.mk (hb); have n3_ := Aside0.mk (hi); clear HO104; clear HK; clear HB; clear HI0; have HO104 := n0_; have HK := n1_; have HB := n2_; have HI0 := n3_; clear n0_ n1_ n2_ n3_; (try clear hb); (try clear hb2); (try clear hk); (try clear hi); obtain ⟨Ao17, co17, eo17⟩ := Kd.R_slice HO104.out; subst eo17; have q18 : (1 : Int) ≤ ((t101.length : Int) : Int) := of_decide_eq_true (by first | (with_reducible assumption) | assumption); obtain ⟨i018, hi018, _, hsz18, _⟩ := info_parts info9; have hroom18 : t101.length ≤ co17 := (Kd.R_reads' HO104.out).2.1; have hC18 : Kd.C Kd.string _ Ao17 t101.length t101 := (Kd.R_reads' HO104.out).2.2; have hcut18 := cut_from (P := Try.prog) 38 9 .i64 Try.underlying38 hi018 1 hsz18 Ao17 t101.length co17 1 (by omega) q18; have hr18 := Kd.C_drop (m := (1 : Int).toNat) (c := co17) hC18 (by omega) hroom18; obtain ⟨A18, hA18⟩ : ∃ A1, A1 = (if co17 = (1 : Int).toNat then Ao17 else (Ao17 : Option Addr).map (·.add ((1 : Int).toNat * 1))) := ⟨_, rfl⟩; obtain ⟨c18, hc18⟩ : ∃ c1, c1 = co17 - (1 : Int).toNat := ⟨_, rfl⟩; have hy18 : y111.length = t101.length - (1 : Int).toNat := (by rw [Ny111.out, List.length_drop] <;> omega); rw [show (t101).drop (1 : Int).toNat = y111 from Ny111.out.symm] at hr18; replace hr18 : Kd.C Kd.string _ A18 y111.length y111 := (by rw [hA18]; exact hr18); rw [← hy18, ← hA18, ← hc18] at hcut18; have HR114 := Aside0.mk hr18; have HC114 := Aside0.mk (show y111.length ≤ c18 from by rw [hy18, hc18]; exact Nat.sub_le_sub_right hroom18 _); clear hr18 hC18 hroom18 hi018 hsz18 hc18; have KY18 := Aside0.mk hy18; have KA18 := Aside0.mk hA18; clear hy18 hA18; have KL18 := Aside0.mk (show 1 ≤ t101.length from by omega); replace q18 := eq_true q18) | ((with_reducible refine gate_callee (f := 36) rfl ?_); refine goesL_ (some 30) rfl rfl Try.func36 (by kernel_rfl) rfl #[.slice A18 y111.length c18] rfl (by (try simp only [List.map_toArray, List.map_cons, List.map_nil]); first | done | rfl | (simp only [List.length_drop, List.length_take]; rfl)) ?_; (with_reducible refine (spec_l01Join.calls _ _ y111 t115 _ ?side1 ?side2 A14.out).mono ?_); (case side1 => repeat (first | exact (by repeat (first | (with_reducible exact HR114.out) | (with_reducible refine Kd.C_alloc ?_ _) | (with_reducible refine Kd.C_drewN ?_ _) | (with_reducible refine Kd.C_drew ?_) | exact HR114.out)) | (with_reducible refine Kd.C_alloc ?_ _) | (with_reducible refine Kd.C_drewN ?_ _) | (with_reducible refine Kd.C_drew ?_))); (case side2 => exact HC114.out); rintro e w19 ⟨rfl, hb⟩; refine ⟨_, rfl, ?_⟩; have n0_ := Aside0.mk (Kd.R_below (by (with_reducible repeat (first | apply Kd.R_alloc | apply Kd.R_drewN | apply Kd.R_drew)); exact HO104.out) hb); have n1_ := Aside0.mk (IsS64.below (by repeat (first | (with_reducible first | exact HI0.out | apply IsS64.alloc | apply IsS64.drewN | apply IsS64.drew | apply IsS64.set_1 | apply IsS64.set_2) | exact HI0.out)) hb); have n2_ := Aside0.mk (Kd.C_below (by repeat (first | (with_reducible exact HR114.out) | (with_reducible refine Kd.C_alloc ?_ _) | (with_reducible refine Kd.C_drewN ?_ _) | (with_reducible refine Kd.C_drew ?_) | exact HR114.out)) hb); have n3_ := Aside0.mk (KeepBut.trans (by repeat (first | (with_reducible first | exact HK.out | apply KeepBut.set_ | apply keep_drewN | apply keep_drew | apply keep_alloc) | exact HK.out)) (KeepBut.of_below hb g none) (.inl rfl)); have n4_ := Aside0.mk (below_step (by repeat (first | (with_reducible first | exact HB.out | apply below_alloc | apply pw_below_drewN | apply below_drew1 | refine below_set ?_ (IsS64.ge HI0.out)) | exact HB.out)) hb); clear HO104; clear HI0; clear HR114; clear HK; clear HB; have HO104 := n0_; have HI0 := n1_; have HR114 := n2_; have HK := n3_; have HB := n4_; clear n0_ n1_ n2_ n3_ n4_; (try clear hb); (try clear hb2); (try clear hk); (try clear hi)))
            go_ret
            exact ⟨by first | rfl | (simp [errW_none, errW_some] <;> rfl) | (simp [*, errW_none, errW_some] <;> rfl), by repeat (first | (with_reducible first | exact HI0.out | apply IsS64.alloc | apply IsS64.drewN | apply IsS64.drew | apply IsS64.set_1 | apply IsS64.set_2) | exact HI0.out), by repeat (first | (with_reducible first | exact HB.out | apply below_alloc | apply pw_below_drewN | apply below_drew1 | refine below_set ?_ (IsS64.ge HI0.out)) | exact HB.out), by repeat (first | (with_reducible first | exact HK.out | apply KeepBut.set_ | apply keep_drewN | apply keep_drew | apply keep_alloc) | exact HK.out)⟩
          · rw [if_neg c13] at H
            exact absurd H (by simp)
        · rw [if_neg c12] at H
          have c12b0 : decide (0 < (t101.length : Int)) = false := decide_eq_false c12
          have c12b1 : decide (0 < t101.length) = false := decide_eq_false (by omega)
          clear c12
          replace H := Option.bind_eq_some_iff.mp H
          obtain ⟨t116, A200, H⟩ := H
          replace H : (if (t116.size : Int) > 255 then (some (a1, t106, t107)) else (some (t116, t106, t107))) = some (r1, r2, r3) := H
          have A20 := Aside0.mk A200
          clear A200
          by_cases c21 : (t116.size : Int) > 255
          · rw [if_pos c21] at H
            have c21b0 : decide (255 < (t116.size : Int)) = true := decide_eq_true c21
            have c21b1 : decide (255 < t116.size) = true := decide_eq_true (by omega)
            clear c21
            simp only [Option.some.injEq, Prod.mk.injEq] at H
            obtain ⟨rfl, rfl, rfl⟩ := H
            go_enter Try.func49, Try.ntmps49
            go_wp2_with (first | ((with_reducible refine gate_callee (f := 34) rfl ?_); refine goesL_ (some 10) rfl rfl Try.func34 (by kernel_rfl) rfl #[.string a1] rfl (by (try simp only [List.map_toArray, List.map_cons, List.map_nil]); first | done | rfl | (simp only [List.length_drop, List.length_take]; rfl)) ?_; (with_reducible refine (spec_l01Split.calls k a1 t101 true _ A3.out).mono ?_); rintro e w22 ⟨v103, rfl, ho0, hb⟩; refine ⟨_, rfl, ?_⟩; have n0_ := Aside0.mk (Kd.R_lower ho0 (keep_size (w := w) (g := g) (row := none) (by repeat (first | (with_reducible first | exact HK.out | apply KeepBut.set_ | apply keep_drewN | apply keep_drew | apply keep_alloc) | exact HK.out)))); have n1_ := Aside0.mk (IsS64.below (by repeat (first | (with_reducible first | exact HI0.out | apply IsS64.alloc | apply IsS64.drewN | apply IsS64.drew | apply IsS64.set_1 | apply IsS64.set_2) | exact HI0.out)) hb); have n2_ := Aside0.mk (KeepBut.trans (by repeat (first | (with_reducible first | exact HK.out | apply KeepBut.set_ | apply keep_drewN | apply keep_drew | apply keep_alloc) | exact HK.out)) (KeepBut.of_below hb g none) (.inl rfl)); have n3_ := Aside0.mk (below_step (by repeat (first | (with_reducible first | exact HB.out | apply below_alloc | apply pw_below_drewN | apply below_drew1 | refine below_set ?_ (IsS64.ge HI0.out)) | exact HB.out)) hb); clear HI0; clear HK; clear HB; have HO104 := n0_; have HI0 := n1_; have HK := n2_; have HB := n3_; clear n0_ n1_ n2_ n3_; (try clear hb); (try clear hb2); (try clear hk); (try clear hi); (try clear ho0)) | ((with_reducible refine gate_callee (f := 67) rfl ?_); refine goesL_ (some 17) rfl rfl Try.func67 (by kernel_rfl) rfl #[.pointer (some ⟨g, 0, none⟩), .int .i64 5] rfl (by (try simp only [List.map_toArray, List.map_cons, List.map_nil]); first | done | rfl | (simp only [List.length_drop, List.length_take]; rfl)) ?_; (with_reducible refine (spec_l01Next.calls g s0_0 s0_1 s0_2 5 t105 t106 t107 w0 _ ?side1 ?side2 A5.out).mono ?_); (case side1 => repeat (first | (with_reducible first | exact HI0.out | apply IsS64.alloc | apply IsS64.drewN | apply IsS64.drew | apply IsS64.set_1 | apply IsS64.set_2) | exact HI0.out)); (case side2 => repeat (first | (with_reducible first | exact HB.out | apply below_alloc | apply pw_below_drewN | apply below_drew1 | refine below_set ?_ (IsS64.ge HI0.out)) | exact HB.out)); rintro e w23 ⟨rfl, hi, hb, hk⟩; refine ⟨_, rfl, ?_⟩; have n0_ := Aside0.mk (Kd.R_mono (Kd.R_keep (IsS64.apart (show IsS64 w0 _ g s0_0 s0_1 s0_2 from by repeat (first | (with_reducible first | exact HI0.out | apply IsS64.alloc | apply IsS64.drewN | apply IsS64.drew | apply IsS64.set_1 | apply IsS64.set_2) | exact HI0.out)) (by (with_reducible repeat (first | apply Kd.R_alloc | apply Kd.R_drewN | apply Kd.R_drew)); exact HO104.out) (by decide)) hk (fun _ h => h.2)) (fun _ h => h.1)); have n1_ := Aside0.mk (KeepBut.trans (by repeat (first | (with_reducible first | exact HK.out | apply KeepBut.set_ | apply keep_drewN | apply keep_drew | apply keep_alloc) | exact HK.out)) hk (.inl rfl)); have n2_ := Aside0.mk (hb); have n3_ := Aside0.mk (hi); clear HO104; clear HK; clear HB; clear HI0; have HO104 := n0_; have HK := n1_; have HB := n2_; have HI0 := n3_; clear n0_ n1_ n2_ n3_; (try clear hb); (try clear hb2); (try clear hk); (try clear hi); obtain ⟨Ao24, co24, eo24⟩ := Kd.R_slice HO104.out; subst eo24) | ((with_reducible refine gate_callee (f := 36) rfl ?_); refine goesL_ (some 49) rfl rfl Try.func36 (by kernel_rfl) rfl #[.slice Ao24 t101.length co24] rfl (by (try simp only [List.map_toArray, List.map_cons, List.map_nil]); first | done | rfl | (simp only [List.length_drop, List.length_take]; rfl)) ?_; (with_reducible refine (spec_l01Join.calls _ _ t101 t116 _ ?side1 ?side2 A20.out).mono ?_); (case side1 => repeat (first | exact (Kd.R_reads' HO104.out).2.2 | (with_reducible refine Kd.C_alloc ?_ _) | (with_reducible refine Kd.C_drewN ?_ _) | (with_reducible refine Kd.C_drew ?_))); (case side2 => exact (Kd.R_reads' HO104.out).2.1); rintro e w25 ⟨rfl, hb⟩; refine ⟨_, rfl, ?_⟩; have n0_ := Aside0.mk (Kd.R_below (by (with_reducible repeat (first | apply Kd.R_alloc | apply Kd.R_drewN | apply Kd.R_drew)); exact HO104.out) hb); have n1_ := Aside0.mk (IsS64.below (by repeat (first | (with_reducible first | exact HI0.out | apply IsS64.alloc | apply IsS64.drewN | apply IsS64.drew | apply IsS64.set_1 | apply IsS64.set_2) | exact HI0.out)) hb); have n2_ := Aside0.mk (KeepBut.trans (by repeat (first | (with_reducible first | exact HK.out | apply KeepBut.set_ | apply keep_drewN | apply keep_drew | apply keep_alloc) | exact HK.out)) (KeepBut.of_below hb g none) (.inl rfl)); have n3_ := Aside0.mk (below_step (by repeat (first | (with_reducible first | exact HB.out | apply below_alloc | apply pw_below_drewN | apply below_drew1 | refine below_set ?_ (IsS64.ge HI0.out)) | exact HB.out)) hb); clear HO104; clear HI0; clear HK; clear HB; have HO104 := n0_; have HI0 := n1_; have HK := n2_; have HB := n3_; clear n0_ n1_ n2_ n3_; (try clear hb); (try clear hb2); (try clear hk); (try clear hi)))
            go_ret
            exact ⟨by first | rfl | (simp [errW_none, errW_some] <;> rfl) | (simp [*, errW_none, errW_some] <;> rfl), by repeat (first | (with_reducible first | exact HI0.out | apply IsS64.alloc | apply IsS64.drewN | apply IsS64.drew | apply IsS64.set_1 | apply IsS64.set_2) | exact HI0.out), by repeat (first | (with_reducible first | exact HB.out | apply below_alloc | apply pw_below_drewN | apply below_drew1 | refine below_set ?_ (IsS64.ge HI0.out)) | exact HB.out), by repeat (first | (with_reducible first | exact HK.out | apply KeepBut.set_ | apply keep_drewN | apply keep_drew | apply keep_alloc) | exact HK.out)⟩
          · rw [if_neg c21] at H
            have c21b0 : decide (255 < (t116.size : Int)) = false := decide_eq_false c21
            have c21b1 : decide (255 < t116.size) = false := decide_eq_false (by omega)
            clear c21
            simp only [Option.some.injEq, Prod.mk.injEq] at H
            obtain ⟨rfl, rfl, rfl⟩ := H
            go_enter Try.func49, Try.ntmps49
            go_wp2_with (first | ((with_reducible refine gate_callee (f := 34) rfl ?_); refine goesL_ (some 10) rfl rfl Try.func34 (by kernel_rfl) rfl #[.string a1] rfl (by (try simp only [List.map_toArray, List.map_cons, List.map_nil]); first | done | rfl | (simp only [List.length_drop, List.length_take]; rfl)) ?_; (with_reducible refine (spec_l01Split.calls k a1 t101 true _ A3.out).mono ?_); rintro e w26 ⟨v103, rfl, ho0, hb⟩; refine ⟨_, rfl, ?_⟩; have n0_ := Aside0.mk (Kd.R_lower ho0 (keep_size (w := w) (g := g) (row := none) (by repeat (first | (with_reducible first | exact HK.out | apply KeepBut.set_ | apply keep_drewN | apply keep_drew | apply keep_alloc) | exact HK.out)))); have n1_ := Aside0.mk (IsS64.below (by repeat (first | (with_reducible first | exact HI0.out | apply IsS64.alloc | apply IsS64.drewN | apply IsS64.drew | apply IsS64.set_1 | apply IsS64.set_2) | exact HI0.out)) hb); have n2_ := Aside0.mk (KeepBut.trans (by repeat (first | (with_reducible first | exact HK.out | apply KeepBut.set_ | apply keep_drewN | apply keep_drew | apply keep_alloc) | exact HK.out)) (KeepBut.of_below hb g none) (.inl rfl)); have n3_ := Aside0.mk (below_step (by repeat (first | (with_reducible first | exact HB.out | apply below_alloc | apply pw_below_drewN | apply below_drew1 | refine below_set ?_ (IsS64.ge HI0.out)) | exact HB.out)) hb); clear HI0; clear HK; clear HB; have HO104 := n0_; have HI0 := n1_; have HK := n2_; have HB := n3_; clear n0_ n1_ n2_ n3_; (try clear hb); (try clear hb2); (try clear hk); (try clear hi); (try clear ho0)) | ((with_reducible refine gate_callee (f := 67) rfl ?_); refine goesL_ (some 17) rfl rfl Try.func67 (by kernel_rfl) rfl #[.pointer (some ⟨g, 0, none⟩), .int .i64 5] rfl (by (try simp only [List.map_toArray, List.map_cons, List.map_nil]); first | done | rfl | (simp only [List.length_drop, List.length_take]; rfl)) ?_; (with_reducible refine (spec_l01Next.calls g s0_0 s0_1 s0_2 5 t105 t106 t107 w0 _ ?side1 ?side2 A5.out).mono ?_); (case side1 => repeat (first | (with_reducible first | exact HI0.out | apply IsS64.alloc | apply IsS64.drewN | apply IsS64.drew | apply IsS64.set_1 | apply IsS64.set_2) | exact HI0.out)); (case side2 => repeat (first | (with_reducible first | exact HB.out | apply below_alloc | apply pw_below_drewN | apply below_drew1 | refine below_set ?_ (IsS64.ge HI0.out)) | exact HB.out)); rintro e w27 ⟨rfl, hi, hb, hk⟩; refine ⟨_, rfl, ?_⟩; have n0_ := Aside0.mk (Kd.R_mono (Kd.R_keep (IsS64.apart (show IsS64 w0 _ g s0_0 s0_1 s0_2 from by repeat (first | (with_reducible first | exact HI0.out | apply IsS64.alloc | apply IsS64.drewN | apply IsS64.drew | apply IsS64.set_1 | apply IsS64.set_2) | exact HI0.out)) (by (with_reducible repeat (first | apply Kd.R_alloc | apply Kd.R_drewN | apply Kd.R_drew)); exact HO104.out) (by decide)) hk (fun _ h => h.2)) (fun _ h => h.1)); have n1_ := Aside0.mk (KeepBut.trans (by repeat (first | (with_reducible first | exact HK.out | apply KeepBut.set_ | apply keep_drewN | apply keep_drew | apply keep_alloc) | exact HK.out)) hk (.inl rfl)); have n2_ := Aside0.mk (hb); have n3_ := Aside0.mk (hi); clear HO104; clear HK; clear HB; clear HI0; have HO104 := n0_; have HK := n1_; have HB := n2_; have HI0 := n3_; clear n0_ n1_ n2_ n3_; (try clear hb); (try clear hb2); (try clear hk); (try clear hi); obtain ⟨Ao28, co28, eo28⟩ := Kd.R_slice HO104.out; subst eo28) | ((with_reducible refine gate_callee (f := 36) rfl ?_); refine goesL_ (some 49) rfl rfl Try.func36 (by kernel_rfl) rfl #[.slice Ao28 t101.length co28] rfl (by (try simp only [List.map_toArray, List.map_cons, List.map_nil]); first | done | rfl | (simp only [List.length_drop, List.length_take]; rfl)) ?_; (with_reducible refine (spec_l01Join.calls _ _ t101 t116 _ ?side1 ?side2 A20.out).mono ?_); (case side1 => repeat (first | exact (Kd.R_reads' HO104.out).2.2 | (with_reducible refine Kd.C_alloc ?_ _) | (with_reducible refine Kd.C_drewN ?_ _) | (with_reducible refine Kd.C_drew ?_))); (case side2 => exact (Kd.R_reads' HO104.out).2.1); rintro e w29 ⟨rfl, hb⟩; refine ⟨_, rfl, ?_⟩; have n0_ := Aside0.mk (Kd.R_below (by (with_reducible repeat (first | apply Kd.R_alloc | apply Kd.R_drewN | apply Kd.R_drew)); exact HO104.out) hb); have n1_ := Aside0.mk (IsS64.below (by repeat (first | (with_reducible first | exact HI0.out | apply IsS64.alloc | apply IsS64.drewN | apply IsS64.drew | apply IsS64.set_1 | apply IsS64.set_2) | exact HI0.out)) hb); have n2_ := Aside0.mk (KeepBut.trans (by repeat (first | (with_reducible first | exact HK.out | apply KeepBut.set_ | apply keep_drewN | apply keep_drew | apply keep_alloc) | exact HK.out)) (KeepBut.of_below hb g none) (.inl rfl)); have n3_ := Aside0.mk (below_step (by repeat (first | (with_reducible first | exact HB.out | apply below_alloc | apply pw_below_drewN | apply below_drew1 | refine below_set ?_ (IsS64.ge HI0.out)) | exact HB.out)) hb); clear HO104; clear HI0; clear HK; clear HB; have HO104 := n0_; have HI0 := n1_; have HK := n2_; have HB := n3_; clear n0_ n1_ n2_ n3_; (try clear hb); (try clear hb2); (try clear hk); (try clear hi)))
            go_ret
            exact ⟨by first | rfl | (simp [errW_none, errW_some] <;> rfl) | (simp [*, errW_none, errW_some] <;> rfl), by repeat (first | (with_reducible first | exact HI0.out | apply IsS64.alloc | apply IsS64.drewN | apply IsS64.drew | apply IsS64.set_1 | apply IsS64.set_2) | exact HI0.out), by repeat (first | (with_reducible first | exact HB.out | apply below_alloc | apply pw_below_drewN | apply below_drew1 | refine below_set ?_ (IsS64.ge HI0.out)) | exact HB.out), by repeat (first | (with_reducible first | exact HK.out | apply KeepBut.set_ | apply keep_drewN | apply keep_drew | apply keep_alloc) | exact HK.out)⟩
      · rw [if_neg c11] at H
        have c11b0 : (t105 == 1) = false := beq_eq_false_iff_ne.mpr c11
        have c11b1 : (t105 != 1) = true := bne_iff_ne.mpr c11
        have HC30 := Aside0.mk H
        clear H
        go_enter Try.func49, Try.ntmps49
        go_upto_if 31 with (first | ((with_reducible refine gate_callee (f := 34) rfl ?_); refine goesL_ (some 10) rfl rfl Try.func34 (by kernel_rfl) rfl #[.string a1] rfl (by (try simp only [List.map_toArray, List.map_cons, List.map_nil]); first | done | rfl | (simp only [List.length_drop, List.length_take]; rfl)) ?_; (with_reducible refine (spec_l01Split.calls k a1 t101 true _ A3.out).mono ?_); rintro e w31 ⟨v103, rfl, ho0, hb⟩; refine ⟨_, rfl, ?_⟩; have n0_ := Aside0.mk (Kd.R_lower ho0 (keep_size (w := w) (g := g) (row := none) (by repeat (first | (with_reducible first | exact HK.out | apply KeepBut.set_ | apply keep_drewN | apply keep_drew | apply keep_alloc) | exact HK.out)))); have n1_ := Aside0.mk (IsS64.below (by repeat (first | (with_reducible first | exact HI0.out | apply IsS64.alloc | apply IsS64.drewN | apply IsS64.drew | apply IsS64.set_1 | apply IsS64.set_2) | exact HI0.out)) hb); have n2_ := Aside0.mk (KeepBut.trans (by repeat (first | (with_reducible first | exact HK.out | apply KeepBut.set_ | apply keep_drewN | apply keep_drew | apply keep_alloc) | exact HK.out)) (KeepBut.of_below hb g none) (.inl rfl)); have n3_ := Aside0.mk (below_step (by repeat (first | (with_reducible first | exact HB.out | apply below_alloc | apply pw_below_drewN | apply below_drew1 | refine below_set ?_ (IsS64.ge HI0.out)) | exact HB.out)) hb); clear HI0; clear HK; clear HB; have HO104 := n0_; have HI0 := n1_; have HK := n2_; have HB := n3_; clear n0_ n1_ n2_ n3_; (try clear hb); (try clear hb2); (try clear hk); (try clear hi); (try clear ho0)) | ((with_reducible refine gate_callee (f := 67) rfl ?_); refine goesL_ (some 17) rfl rfl Try.func67 (by kernel_rfl) rfl #[.pointer (some ⟨g, 0, none⟩), .int .i64 5] rfl (by (try simp only [List.map_toArray, List.map_cons, List.map_nil]); first | done | rfl | (simp only [List.length_drop, List.length_take]; rfl)) ?_; (with_reducible refine (spec_l01Next.calls g s0_0 s0_1 s0_2 5 t105 t106 t107 w0 _ ?side1 ?side2 A5.out).mono ?_); (case side1 => repeat (first | (with_reducible first | exact HI0.out | apply IsS64.alloc | apply IsS64.drewN | apply IsS64.drew | apply IsS64.set_1 | apply IsS64.set_2) | exact HI0.out)); (case side2 => repeat (first | (with_reducible first | exact HB.out | apply below_alloc | apply pw_below_drewN | apply below_drew1 | refine below_set ?_ (IsS64.ge HI0.out)) | exact HB.out)); rintro e w32 ⟨rfl, hi, hb, hk⟩; refine ⟨_, rfl, ?_⟩; have n0_ := Aside0.mk (Kd.R_mono (Kd.R_keep (IsS64.apart (show IsS64 w0 _ g s0_0 s0_1 s0_2 from by repeat (first | (with_reducible first | exact HI0.out | apply IsS64.alloc | apply IsS64.drewN | apply IsS64.drew | apply IsS64.set_1 | apply IsS64.set_2) | exact HI0.out)) (by (with_reducible repeat (first | apply Kd.R_alloc | apply Kd.R_drewN | apply Kd.R_drew)); exact HO104.out) (by decide)) hk (fun _ h => h.2)) (fun _ h => h.1)); have n1_ := Aside0.mk (KeepBut.trans (by repeat (first | (with_reducible first | exact HK.out | apply KeepBut.set_ | apply keep_drewN | apply keep_drew | apply keep_alloc) | exact HK.out)) hk (.inl rfl)); have n2_ := Aside0.mk (hb); have n3_ := Aside0.mk (hi); clear HO104; clear HK; clear HB; clear HI0; have HO104 := n0_; have HK := n1_; have HB := n2_; have HI0 := n3_; clear n0_ n1_ n2_ n3_; (try clear hb); (try clear hb2); (try clear hk); (try clear hi)))
        (try simp only [Act.put, List.setIfInBounds_toArray, List.set_cons_zero, List.set_cons_succ])
        go_cut [31] (fun v31 wc => ∃ (kq : Nat) (x31_29 : Bool), v31 = .bool x31_29 ∧ Aside0 (spec_l01Near.j0 kq a1 t101 t105 x31_29 s0_0 t106 t107 = some (r1, r2, r3)) ∧ Aside0 (kq ≤ k) ∧ Aside0 (Kd.R Kd.string 9 wc w.heap.size (fun _ => True) v103 t101) ∧ Aside0 (IsS64 w0 wc g s0_0 t106 t107) ∧ Aside0 (KeepBut w wc g none) ∧ Aside0 (Below w0.heap.size w0 wc))
        case first =>
          have H := HC30.out
          clear HC30
          by_cases c33 : t105 = 2
          · rw [if_pos c33] at H
            have c33b0 : (t105 == 2) = true := beq_iff_eq.mpr c33
            have c33b1 : (t105 != 2) = false := bne_eq_false_iff_eq.mpr c33
            clear c33
            (first | rw [c33b0] | (simp only [i64_w, i32_w]; rw [c33b0]) | skip)
            have H' := Aside0.mk H
            clear H
            go_wp2
            go_meet
            case rel => exact ⟨_, ((t105 == 2)), (by first | rfl | (simp; done) | (simp [*]; done)), H', ⟨by first | omega | exact Nat.le_refl _⟩, ⟨by (with_reducible repeat (first | apply Kd.R_alloc | apply Kd.R_drewN | apply Kd.R_drew)); exact HO104.out⟩, ⟨by repeat (first | (with_reducible first | exact HI0.out | apply IsS64.alloc | apply IsS64.drewN | apply IsS64.drew | apply IsS64.set_1 | apply IsS64.set_2) | exact HI0.out)⟩, ⟨by repeat (first | (with_reducible first | exact HK.out | apply KeepBut.set_ | apply keep_drewN | apply keep_drew | apply keep_alloc) | exact HK.out)⟩, ⟨by repeat (first | (with_reducible first | exact HB.out | apply below_alloc | apply pw_below_drewN | apply below_drew1 | refine below_set ?_ (IsS64.ge HI0.out)) | exact HB.out)⟩⟩
          · rw [if_neg c33] at H
            have c33b0 : (t105 == 2) = false := beq_eq_false_iff_ne.mpr c33
            have c33b1 : (t105 != 2) = true := bne_iff_ne.mpr c33
            (first | rw [c33b0] | (simp only [i64_w, i32_w]; rw [c33b0]) | skip)
            have H' := Aside0.mk H
            clear H
            go_wp2
            go_meet
            case rel => exact ⟨_, ((t105 == 3)), (by first | rfl | (simp; done) | (simp [*]; done)), H', ⟨by first | omega | exact Nat.le_refl _⟩, ⟨by (with_reducible repeat (first | apply Kd.R_alloc | apply Kd.R_drewN | apply Kd.R_drew)); exact HO104.out⟩, ⟨by repeat (first | (with_reducible first | exact HI0.out | apply IsS64.alloc | apply IsS64.drewN | apply IsS64.drew | apply IsS64.set_1 | apply IsS64.set_2) | exact HI0.out)⟩, ⟨by repeat (first | (with_reducible first | exact HK.out | apply KeepBut.set_ | apply keep_drewN | apply keep_drew | apply keep_alloc) | exact HK.out)⟩, ⟨by repeat (first | (with_reducible first | exact HB.out | apply below_alloc | apply pw_below_drewN | apply below_drew1 | refine below_set ?_ (IsS64.ge HI0.out)) | exact HB.out)⟩⟩
        case rest =>
          clear HC30
          try clear c1
          try clear q1
          try clear c2
          try clear p2
          try clear c3
          try clear c4
          try clear c5
          try clear c6
          try clear c6b0
          try clear c6b1
          try clear c11
          try clear c11b0
          try clear c11b1
          try clear c12
          try clear c12b0
          try clear c12b1
          try clear c13
          try clear c13b0
          try clear c13b1
          try clear c18
          try clear q18
          try clear c21
          try clear c21b0
          try clear c21b1
          try clear c33
          try clear c33b0
          try clear c33b1
          try clear q18
          obtain ⟨kq, x31_29, rfl, HA, HJ29, HO_5, HI0, HK, HB⟩ := hcut
          cases kq with
          | zero => exact absurd HA.out (by simp [spec_l01Near.j0])
          | succ kj29 =>
            have H := HA.out
            clear HA
            simp only [spec_l01Near.j0] at H
            by_cases c34 : x31_29 = true
            · subst c34
              have H1 : ((spec_l01Label.f kj29 s0_0 t106 t107).bind fun bt117 => ((some (([bt117.1] : List ByteArray) : List ByteArray)).bind fun y120 => (if y120.length + t101.length < 8796093022208 then ((spec_l01Join.f (y120 ++ t101)).bind fun t126 => (if (t126.size : Int) > 255 then (some (a1, bt117.2.1, bt117.2.2)) else (some (t126, bt117.2.1, bt117.2.2)))) else (none)))) = some (r1, r2, r3) := by rw [if_pos rfl] at H; exact H
              clear H
              have H := H1
              clear H1
              replace H := Option.bind_eq_some_iff.mp H
              obtain ⟨⟨t117, t118, t119⟩, A350, H⟩ := H
              replace H : ((some (([t117] : List ByteArray) : List ByteArray)).bind fun y120 => (if y120.length + t101.length < 8796093022208 then ((spec_l01Join.f (y120 ++ t101)).bind fun t126 => (if (t126.size : Int) > 255 then (some (a1, t118, t119)) else (some (t126, t118, t119)))) else (none))) = some (r1, r2, r3) := H
              have A35 := Aside0.mk A350
              clear A350
              obtain ⟨y120, hy120⟩ : ∃ y_ : List ByteArray, y_ = (([t117] : List ByteArray)) := ⟨_, rfl⟩
              replace H : (if y120.length + t101.length < 8796093022208 then ((spec_l01Join.f (y120 ++ t101)).bind fun t126 => (if (t126.size : Int) > 255 then (some (a1, t118, t119)) else (some (t126, t118, t119)))) else (none)) = some (r1, r2, r3) := by first | (rw [hy120]; with_reducible exact H) | (have H2_ := (Option.bind_some _ _).symm.trans H; rw [hy120]; with_reducible exact H2_) | (have H2_ := (Option.bind_some _ _).symm.trans H; with_reducible exact H2_) | with_reducible exact H | (rw [hy120]; exact H) | exact H
              have Ny120 := Aside0.mk hy120
              clear hy120
              by_cases c36 : y120.length + t101.length < 8796093022208
              · rw [if_pos c36] at H
                have LMc36 := Aside0.mk c36
                clear c36
                obtain ⟨y123, hy123⟩ : ∃ y_ : List ByteArray, y_ = (y120 ++ t101) := ⟨_, rfl⟩
                replace H : ((spec_l01Join.f y123).bind fun t126 => (if (t126.size : Int) > 255 then (some (a1, t118, t119)) else (some (t126, t118, t119)))) = some (r1, r2, r3) := by first | (rw [hy123]; with_reducible exact H) | (have H2_ := (Option.bind_some _ _).symm.trans H; rw [hy123]; with_reducible exact H2_) | (have H2_ := (Option.bind_some _ _).symm.trans H; with_reducible exact H2_) | with_reducible exact H | (rw [hy123]; exact H) | exact H
                have Ny123 := Aside0.mk hy123
                clear hy123
                replace H := Option.bind_eq_some_iff.mp H
                obtain ⟨t126, A370, H⟩ := H
                replace H : (if (t126.size : Int) > 255 then (some (a1, t118, t119)) else (some (t126, t118, t119))) = some (r1, r2, r3) := H
                have A37 := Aside0.mk A370
                clear A370
                by_cases c38 : (t126.size : Int) > 255
                · rw [if_pos c38] at H
                  have c38b0 : decide (255 < (t126.size : Int)) = true := decide_eq_true c38
                  have c38b1 : decide (255 < t126.size) = true := decide_eq_true (by omega)
                  clear c38
                  simp only [Option.some.injEq, Prod.mk.injEq] at H
                  obtain ⟨rfl, rfl, rfl⟩ := H
                  go_wp2_with (first | ((with_reducible refine gate_callee (f := 69) rfl ?_); refine goesL_ (some 35) rfl rfl Try.func69 (by kernel_rfl) rfl #[.pointer (some ⟨g, 0, none⟩)] rfl (by (try simp only [List.map_toArray, List.map_cons, List.map_nil]); first | done | rfl | (simp only [List.length_drop, List.length_take]; rfl)) ?_; (with_reducible refine (spec_l01Label.calls kj29 g s0_0 t106 t107 t117 t118 t119 w0 _ ?side1 ?side2 A35.out).mono ?_); (case side1 => repeat (first | (with_reducible first | exact HI0.out | apply IsS64.alloc | apply IsS64.drewN | apply IsS64.drew | apply IsS64.set_1 | apply IsS64.set_2) | exact HI0.out)); (case side2 => repeat (first | (with_reducible first | exact HB.out | apply below_alloc | apply pw_below_drewN | apply below_drew1 | refine below_set ?_ (IsS64.ge HI0.out)) | exact HB.out)); rintro e w39 ⟨rfl, hi, hb, hk⟩; refine ⟨_, rfl, ?_⟩; have n0_ := Aside0.mk (Kd.R_mono (Kd.R_keep (IsS64.apart (show IsS64 w0 _ g s0_0 t106 t107 from by repeat (first | (with_reducible first | exact HI0.out | apply IsS64.alloc | apply IsS64.drewN | apply IsS64.drew | apply IsS64.set_1 | apply IsS64.set_2) | exact HI0.out)) (by (with_reducible repeat (first | apply Kd.R_alloc | apply Kd.R_drewN | apply Kd.R_drew)); exact HO_5.out) (by decide)) hk (fun _ h => h.2)) (fun _ h => h.1)); have n1_ := Aside0.mk (KeepBut.trans (by repeat (first | (with_reducible first | exact HK.out | apply KeepBut.set_ | apply keep_drewN | apply keep_drew | apply keep_alloc) | exact HK.out)) hk (.inl rfl)); have n2_ := Aside0.mk (hb); have n3_ := Aside0.mk (hi); clear HO_5; clear HK; clear HB; clear HI0; have HO_5 := n0_; have HK := n1_; have HB := n2_; have HI0 := n3_; clear n0_ n1_ n2_ n3_; (try clear hb); (try clear hb2); (try clear hk); (try clear hi)) | ((with_reducible refine gate_dst (N := 36) rfl ?_); refine Kd.R_lit Kd.string _ 9 ?hg (N := 36) ?hd (xs := ([t117] : List ByteArray)) (inner := [.string t117]) (ok := fun _ => True) (okp := fun _ => True) ?hr ?hp (fun _ hk => hk) trivial (Below.refl _ _) (Nat.le_refl _) (by simp) ?_; (case hd => rfl); (case hg => rfl); (case hr => first | (go_simp; done) | (go_simp; rfl)); (case hp => exact (Reps.one (show Kd.M Kd.string _ _ _ t117 [.string t117] from rfl) (Reps.none _ _))); intro v121 w40 ho41 hb hg_ hnew_; clear hg_ hnew_; (first | rw [← Ny120.out] at ho41 | (simp only [Int.reduceToNat] at ho41; rw [← Ny120.out] at ho41)); have n0_ := Aside0.mk (Kd.R_elder' (by (with_reducible repeat (first | apply Kd.R_alloc | apply Kd.R_drewN | apply Kd.R_drew)); exact HO_5.out) (Kd.R_base ho41) hb); have n1_ := Aside0.mk (Kd.R_lower (Kd.R_new' ho41 (Kd.R_lt (by (with_reducible repeat (first | apply Kd.R_alloc | apply Kd.R_drewN | apply Kd.R_drew)); exact HO_5.out))) (keep_size (w := w) (g := g) (row := none) (by repeat (first | (with_reducible first | exact HK.out | apply KeepBut.set_ | apply keep_drewN | apply keep_drew | apply keep_alloc) | exact HK.out)))); have n2_ := Aside0.mk (IsS64.below (by repeat (first | (with_reducible first | exact HI0.out | apply IsS64.alloc | apply IsS64.drewN | apply IsS64.drew | apply IsS64.set_1 | apply IsS64.set_2) | exact HI0.out)) hb); have n3_ := Aside0.mk (KeepBut.trans (by repeat (first | (with_reducible first | exact HK.out | apply KeepBut.set_ | apply keep_drewN | apply keep_drew | apply keep_alloc) | exact HK.out)) (KeepBut.of_below hb g none) (.inl rfl)); have n4_ := Aside0.mk (below_step (by repeat (first | (with_reducible first | exact HB.out | apply below_alloc | apply pw_below_drewN | apply below_drew1 | refine below_set ?_ (IsS64.ge HI0.out)) | exact HB.out)) hb); clear HO_5; clear HI0; clear HK; clear HB; have HO_5 := n0_; have HO122 := n1_; have HI0 := n2_; have HK := n3_; have HB := n4_; clear n0_ n1_ n2_ n3_ n4_; clear hb ho41; obtain ⟨Ao43, co43, eo43⟩ := Kd.R_slice HO_5.out; subst eo43) | ((with_reducible refine gate_builtin (b := .append) (xs := #[.tmp 36, .tmp 37]) rfl ?_); at_builtin; refine Kd.R_append_rows Kd.string w.heap.size rfl (.tmp 36) (.tmp 37) 38 9 (.string ⟨#[]⟩) 16 rfl Try.underlying38 info9 rfl (by decide) (by omega) v121 y120 t101 _ _ _ (fun k_ => some k_ ≠ (.slice Ao43 t101.length co43 : Value).ownBlock) (fun _ => False) rfl rfl ?aO ?aR (fun _ _ h => h) (fun _ h => h.elim) ?aF (Below.refl _ _) ?aS ?aL ?_; (case aR => repeat (first | exact (Kd.R_reads' HO_5.out).2.2 | (with_reducible refine Kd.C_alloc ?_ _) | (with_reducible refine Kd.C_drewN ?_ _) | (with_reducible refine Kd.C_drew ?_))); (case aF => exact (fun k_ hk => Kd.fresh' (Kd.R_lt (by (with_reducible repeat (first | apply Kd.R_alloc | apply Kd.R_drewN | apply Kd.R_drew)); exact HO_5.out)) k_ hk)); (case aO => exact (by (with_reducible repeat (first | apply Kd.R_alloc | apply Kd.R_drewN | apply Kd.R_drew)); exact Kd.R_mono HO122.out (fun _ hk => hk.2))); (case aS => exact (keep_size (w := w) (g := g) (row := none) (by repeat (first | (with_reducible first | exact HK.out | apply KeepBut.set_ | apply keep_drewN | apply keep_drew | apply keep_alloc) | exact HK.out)))); (case aL => have := LMc36.out; omega); intro v124 w42 ho hb hg hat; rw [← Ny123.out] at ho; have n0_ := Aside0.mk (Kd.R_after (ok := (fun _ => True)) (by (with_reducible repeat (first | apply Kd.R_alloc | apply Kd.R_drewN | apply Kd.R_drew)); exact HO_5.out) hg hat); have n1_ := Aside0.mk (IsS64.grown (by repeat (first | (with_reducible first | exact HI0.out | apply IsS64.alloc | apply IsS64.drewN | apply IsS64.drew | apply IsS64.set_1 | apply IsS64.set_2) | exact HI0.out)) hg (IsS64.own_ne HI0.out HO122.out (by decide))); have n2_ := Aside0.mk (below_weaken (by repeat (first | (with_reducible first | exact HB.out | apply below_alloc | apply pw_below_drewN | apply below_drew1 | refine below_set ?_ (IsS64.ge HI0.out)) | exact HB.out)) HL.out hb); have n3_ := Aside0.mk (KeepBut.trans (by repeat (first | (with_reducible first | exact HK.out | apply KeepBut.set_ | apply keep_drewN | apply keep_drew | apply keep_alloc) | exact HK.out)) (KeepBut.of_grown hg g) (Kd.R_base2 HO122.out)); have n4_ := Aside0.mk (ho); clear HO_5; clear HI0; clear HB; clear HK; clear HO122; have HO_5 := n0_; have HI0 := n1_; have HB := n2_; have HK := n3_; have HO125 := n4_; clear n0_ n1_ n2_ n3_ n4_; clear ho hb hg hat; obtain ⟨Ao44, co44, eo44⟩ := Kd.R_slice HO125.out; subst eo44) | ((with_reducible refine gate_callee (f := 36) rfl ?_); refine goesL_ (some 49) rfl rfl Try.func36 (by kernel_rfl) rfl #[.slice Ao44 y123.length co44] rfl (by (try simp only [List.map_toArray, List.map_cons, List.map_nil]); first | done | rfl | (simp only [List.length_drop, List.length_take]; rfl)) ?_; (with_reducible refine (spec_l01Join.calls _ _ y123 t126 _ ?side1 ?side2 A37.out).mono ?_); (case side1 => repeat (first | exact (Kd.R_reads' HO125.out).2.2 | (with_reducible refine Kd.C_alloc ?_ _) | (with_reducible refine Kd.C_drewN ?_ _) | (with_reducible refine Kd.C_drew ?_))); (case side2 => exact (Kd.R_reads' HO125.out).2.1); rintro e w45 ⟨rfl, hb⟩; refine ⟨_, rfl, ?_⟩; have n0_ := Aside0.mk (Kd.R_below (by (with_reducible repeat (first | apply Kd.R_alloc | apply Kd.R_drewN | apply Kd.R_drew)); exact HO_5.out) hb); have n1_ := Aside0.mk (Kd.R_below (by (with_reducible repeat (first | apply Kd.R_alloc | apply Kd.R_drewN | apply Kd.R_drew)); exact HO125.out) hb); have n2_ := Aside0.mk (IsS64.below (by repeat (first | (with_reducible first | exact HI0.out | apply IsS64.alloc | apply IsS64.drewN | apply IsS64.drew | apply IsS64.set_1 | apply IsS64.set_2) | exact HI0.out)) hb); have n3_ := Aside0.mk (KeepBut.trans (by repeat (first | (with_reducible first | exact HK.out | apply KeepBut.set_ | apply keep_drewN | apply keep_drew | apply keep_alloc) | exact HK.out)) (KeepBut.of_below hb g none) (.inl rfl)); have n4_ := Aside0.mk (below_step (by repeat (first | (with_reducible first | exact HB.out | apply below_alloc | apply pw_below_drewN | apply below_drew1 | refine below_set ?_ (IsS64.ge HI0.out)) | exact HB.out)) hb); clear HO_5; clear HO125; clear HI0; clear HK; clear HB; have HO_5 := n0_; have HO125 := n1_; have HI0 := n2_; have HK := n3_; have HB := n4_; clear n0_ n1_ n2_ n3_ n4_; (try clear hb); (try clear hb2); (try clear hk); (try clear hi)))
                  go_ret
                  exact ⟨by first | rfl | (simp [errW_none, errW_some] <;> rfl) | (simp [*, errW_none, errW_some] <;> rfl), by repeat (first | (with_reducible first | exact HI0.out | apply IsS64.alloc | apply IsS64.drewN | apply IsS64.drew | apply IsS64.set_1 | apply IsS64.set_2) | exact HI0.out), by repeat (first | (with_reducible first | exact HB.out | apply below_alloc | apply pw_below_drewN | apply below_drew1 | refine below_set ?_ (IsS64.ge HI0.out)) | exact HB.out), by repeat (first | (with_reducible first | exact HK.out | apply KeepBut.set_ | apply keep_drewN | apply keep_drew | apply keep_alloc) | exact HK.out)⟩
                · rw [if_neg c38] at H
                  have c38b0 : decide (255 < (t126.size : Int)) = false := decide_eq_false c38
                  have c38b1 : decide (255 < t126.size) = false := decide_eq_false (by omega)
                  clear c38
                  simp only [Option.some.injEq, Prod.mk.injEq] at H
                  obtain ⟨rfl, rfl, rfl⟩ := H
                  go_wp2_with (first | ((with_reducible refine gate_callee (f := 69) rfl ?_); refine goesL_ (some 35) rfl rfl Try.func69 (by kernel_rfl) rfl #[.pointer (some ⟨g, 0, none⟩)] rfl (by (try simp only [List.map_toArray, List.map_cons, List.map_nil]); first | done | rfl | (simp only [List.length_drop, List.length_take]; rfl)) ?_; (with_reducible refine (spec_l01Label.calls kj29 g s0_0 t106 t107 t117 t118 t119 w0 _ ?side1 ?side2 A35.out).mono ?_); (case side1 => repeat (first | (with_reducible first | exact HI0.out | apply IsS64.alloc | apply IsS64.drewN | apply IsS64.drew | apply IsS64.set_1 | apply IsS64.set_2) | exact HI0.out)); (case side2 => repeat (first | (with_reducible first | exact HB.out | apply below_alloc | apply pw_below_drewN | apply below_drew1 | refine below_set ?_ (IsS64.ge HI0.out)) | exact HB.out)); rintro e w46 ⟨rfl, hi, hb, hk⟩; refine ⟨_, rfl, ?_⟩; have n0_ := Aside0.mk (Kd.R_mono (Kd.R_keep (IsS64.apart (show IsS64 w0 _ g s0_0 t106 t107 from by repeat (first | (with_reducible first | exact HI0.out | apply IsS64.alloc | apply IsS64.drewN | apply IsS64.drew | apply IsS64.set_1 | apply IsS64.set_2) | exact HI0.out)) (by (with_reducible repeat (first | apply Kd.R_alloc | apply Kd.R_drewN | apply Kd.R_drew)); exact HO_5.out) (by decide)) hk (fun _ h => h.2)) (fun _ h => h.1)); have n1_ := Aside0.mk (KeepBut.trans (by repeat (first | (with_reducible first | exact HK.out | apply KeepBut.set_ | apply keep_drewN | apply keep_drew | apply keep_alloc) | exact HK.out)) hk (.inl rfl)); have n2_ := Aside0.mk (hb); have n3_ := Aside0.mk (hi); clear HO_5; clear HK; clear HB; clear HI0; have HO_5 := n0_; have HK := n1_; have HB := n2_; have HI0 := n3_; clear n0_ n1_ n2_ n3_; (try clear hb); (try clear hb2); (try clear hk); (try clear hi)) | ((with_reducible refine gate_dst (N := 36) rfl ?_); refine Kd.R_lit Kd.string _ 9 ?hg (N := 36) ?hd (xs := ([t117] : List ByteArray)) (inner := [.string t117]) (ok := fun _ => True) (okp := fun _ => True) ?hr ?hp (fun _ hk => hk) trivial (Below.refl _ _) (Nat.le_refl _) (by simp) ?_; (case hd => rfl); (case hg => rfl); (case hr => first | (go_simp; done) | (go_simp; rfl)); (case hp => exact (Reps.one (show Kd.M Kd.string _ _ _ t117 [.string t117] from rfl) (Reps.none _ _))); intro v121 w47 ho48 hb hg_ hnew_; clear hg_ hnew_; (first | rw [← Ny120.out] at ho48 | (simp only [Int.reduceToNat] at ho48; rw [← Ny120.out] at ho48)); have n0_ := Aside0.mk (Kd.R_elder' (by (with_reducible repeat (first | apply Kd.R_alloc | apply Kd.R_drewN | apply Kd.R_drew)); exact HO_5.out) (Kd.R_base ho48) hb); have n1_ := Aside0.mk (Kd.R_lower (Kd.R_new' ho48 (Kd.R_lt (by (with_reducible repeat (first | apply Kd.R_alloc | apply Kd.R_drewN | apply Kd.R_drew)); exact HO_5.out))) (keep_size (w := w) (g := g) (row := none) (by repeat (first | (with_reducible first | exact HK.out | apply KeepBut.set_ | apply keep_drewN | apply keep_drew | apply keep_alloc) | exact HK.out)))); have n2_ := Aside0.mk (IsS64.below (by repeat (first | (with_reducible first | exact HI0.out | apply IsS64.alloc | apply IsS64.drewN | apply IsS64.drew | apply IsS64.set_1 | apply IsS64.set_2) | exact HI0.out)) hb); have n3_ := Aside0.mk (KeepBut.trans (by repeat (first | (with_reducible first | exact HK.out | apply KeepBut.set_ | apply keep_drewN | apply keep_drew | apply keep_alloc) | exact HK.out)) (KeepBut.of_below hb g none) (.inl rfl)); have n4_ := Aside0.mk (below_step (by repeat (first | (with_reducible first | exact HB.out | apply below_alloc | apply pw_below_drewN | apply below_drew1 | refine below_set ?_ (IsS64.ge HI0.out)) | exact HB.out)) hb); clear HO_5; clear HI0; clear HK; clear HB; have HO_5 := n0_; have HO122 := n1_; have HI0 := n2_; have HK := n3_; have HB := n4_; clear n0_ n1_ n2_ n3_ n4_; clear hb ho48; obtain ⟨Ao50, co50, eo50⟩ := Kd.R_slice HO_5.out; subst eo50) | ((with_reducible refine gate_builtin (b := .append) (xs := #[.tmp 36, .tmp 37]) rfl ?_); at_builtin; refine Kd.R_append_rows Kd.string w.heap.size rfl (.tmp 36) (.tmp 37) 38 9 (.string ⟨#[]⟩) 16 rfl Try.underlying38 info9 rfl (by decide) (by omega) v121 y120 t101 _ _ _ (fun k_ => some k_ ≠ (.slice Ao50 t101.length co50 : Value).ownBlock) (fun _ => False) rfl rfl ?aO ?aR (fun _ _ h => h) (fun _ h => h.elim) ?aF (Below.refl _ _) ?aS ?aL ?_; (case aR => repeat (first | exact (Kd.R_reads' HO_5.out).2.2 | (with_reducible refine Kd.C_alloc ?_ _) | (with_reducible refine Kd.C_drewN ?_ _) | (with_reducible refine Kd.C_drew ?_))); (case aF => exact (fun k_ hk => Kd.fresh' (Kd.R_lt (by (with_reducible repeat (first | apply Kd.R_alloc | apply Kd.R_drewN | apply Kd.R_drew)); exact HO_5.out)) k_ hk)); (case aO => exact (by (with_reducible repeat (first | apply Kd.R_alloc | apply Kd.R_drewN | apply Kd.R_drew)); exact Kd.R_mono HO122.out (fun _ hk => hk.2))); (case aS => exact (keep_size (w := w) (g := g) (row := none) (by repeat (first | (with_reducible first | exact HK.out | apply KeepBut.set_ | apply keep_drewN | apply keep_drew | apply keep_alloc) | exact HK.out)))); (case aL => have := LMc36.out; omega); intro v124 w49 ho hb hg hat; rw [← Ny123.out] at ho; have n0_ := Aside0.mk (Kd.R_after (ok := (fun _ => True)) (by (with_reducible repeat (first | apply Kd.R_alloc | apply Kd.R_drewN | apply Kd.R_drew)); exact HO_5.out) hg hat); have n1_ := Aside0.mk (IsS64.grown (by repeat (first | (with_reducible first | exact HI0.out | apply IsS64.alloc | apply IsS64.drewN | apply IsS64.drew | apply IsS64.set_1 | apply IsS64.set_2) | exact HI0.out)) hg (IsS64.own_ne HI0.out HO122.out (by decide))); have n2_ := Aside0.mk (below_weaken (by repeat (first | (with_reducible first | exact HB.out | apply below_alloc | apply pw_below_drewN | apply below_drew1 | refine below_set ?_ (IsS64.ge HI0.out)) | exact HB.out)) HL.out hb); have n3_ := Aside0.mk (KeepBut.trans (by repeat (first | (with_reducible first | exact HK.out | apply KeepBut.set_ | apply keep_drewN | apply keep_drew | apply keep_alloc) | exact HK.out)) (KeepBut.of_grown hg g) (Kd.R_base2 HO122.out)); have n4_ := Aside0.mk (ho); clear HO_5; clear HI0; clear HB; clear HK; clear HO122; have HO_5 := n0_; have HI0 := n1_; have HB := n2_; have HK := n3_; have HO125 := n4_; clear n0_ n1_ n2_ n3_ n4_; clear ho hb hg hat; obtain ⟨Ao51, co51, eo51⟩ := Kd.R_slice HO125.out; subst eo51) | ((with_reducible refine gate_callee (f := 36) rfl ?_); refine goesL_ (some 49) rfl rfl Try.func36 (by kernel_rfl) rfl #[.slice Ao51 y123.length co51] rfl (by (try simp only [List.map_toArray, List.map_cons, List.map_nil]); first | done | rfl | (simp only [List.length_drop, List.length_take]; rfl)) ?_; (with_reducible refine (spec_l01Join.calls _ _ y123 t126 _ ?side1 ?side2 A37.out).mono ?_); (case side1 => repeat (first | exact (Kd.R_reads' HO125.out).2.2 | (with_reducible refine Kd.C_alloc ?_ _) | (with_reducible refine Kd.C_drewN ?_ _) | (with_reducible refine Kd.C_drew ?_))); (case side2 => exact (Kd.R_reads' HO125.out).2.1); rintro e w52 ⟨rfl, hb⟩; refine ⟨_, rfl, ?_⟩; have n0_ := Aside0.mk (Kd.R_below (by (with_reducible repeat (first | apply Kd.R_alloc | apply Kd.R_drewN | apply Kd.R_drew)); exact HO_5.out) hb); have n1_ := Aside0.mk (Kd.R_below (by (with_reducible repeat (first | apply Kd.R_alloc | apply Kd.R_drewN | apply Kd.R_drew)); exact HO125.out) hb); have n2_ := Aside0.mk (IsS64.below (by repeat (first | (with_reducible first | exact HI0.out | apply IsS64.alloc | apply IsS64.drewN | apply IsS64.drew | apply IsS64.set_1 | apply IsS64.set_2) | exact HI0.out)) hb); have n3_ := Aside0.mk (KeepBut.trans (by repeat (first | (with_reducible first | exact HK.out | apply KeepBut.set_ | apply keep_drewN | apply keep_drew | apply keep_alloc) | exact HK.out)) (KeepBut.of_below hb g none) (.inl rfl)); have n4_ := Aside0.mk (below_step (by repeat (first | (with_reducible first | exact HB.out | apply below_alloc | apply pw_below_drewN | apply below_drew1 | refine below_set ?_ (IsS64.ge HI0.out)) | exact HB.out)) hb); clear HO_5; clear HO125; clear HI0; clear HK; clear HB; have HO_5 := n0_; have HO125 := n1_; have HI0 := n2_; have HK := n3_; have HB := n4_; clear n0_ n1_ n2_ n3_ n4_; (try clear hb); (try clear hb2); (try clear hk); (try clear hi)))
                  go_ret
                  exact ⟨by first | rfl | (simp [errW_none, errW_some] <;> rfl) | (simp [*, errW_none, errW_some] <;> rfl), by repeat (first | (with_reducible first | exact HI0.out | apply IsS64.alloc | apply IsS64.drewN | apply IsS64.drew | apply IsS64.set_1 | apply IsS64.set_2) | exact HI0.out), by repeat (first | (with_reducible first | exact HB.out | apply below_alloc | apply pw_below_drewN | apply below_drew1 | refine below_set ?_ (IsS64.ge HI0.out)) | exact HB.out), by repeat (first | (with_reducible first | exact HK.out | apply KeepBut.set_ | apply keep_drewN | apply keep_drew | apply keep_alloc) | exact HK.out)⟩
              · rw [if_neg c36] at H
                exact absurd H (by simp)
            · replace c34 := Bool.eq_false_iff.mpr c34
              subst c34
              have H1 : (if t105 = 4 then (if (t101.length : Int) > 0 then ((spec_l01Label.f kj29 s0_0 t106 t107).bind fun bt127 => (if 0 < (t101.length : Int) then ((spec_l01Join.f (t101.set (0 : Int).toNat bt127.1)).bind fun t131 => (if (t131.size : Int) > 255 then (some (a1, bt127.2.1, bt127.2.2)) else (some (t131, bt127.2.1, bt127.2.2)))) else (none))) else ((spec_l01Join.f t101).bind fun t132 => (if (t132.size : Int) > 255 then (some (a1, t106, t107)) else (some (t132, t106, t107))))) else ((spec_l01Join.f t101).bind fun t133 => (if (t133.size : Int) > 255 then (some (a1, t106, t107)) else (some (t133, t106, t107))))) = some (r1, r2, r3) := by rw [if_neg (show ¬ (false = true) by decide)] at H; exact H
              clear H
              have H := H1
              clear H1
              by_cases c53 : t105 = 4
              · rw [if_pos c53] at H
                have c53b0 : (t105 == 4) = true := beq_iff_eq.mpr c53
                have c53b1 : (t105 != 4) = false := bne_eq_false_iff_eq.mpr c53
                clear c53
                by_cases c54 : (t101.length : Int) > 0
                · rw [if_pos c54] at H
                  have c54b0 : decide (0 < (t101.length : Int)) = true := decide_eq_true c54
                  have c54b1 : decide (0 < t101.length) = true := decide_eq_true (by omega)
                  clear c54
                  replace H := Option.bind_eq_some_iff.mp H
                  obtain ⟨⟨t127, t128, t129⟩, A550, H⟩ := H
                  replace H : (if 0 < (t101.length : Int) then ((spec_l01Join.f (t101.set (0 : Int).toNat t127)).bind fun t131 => (if (t131.size : Int) > 255 then (some (a1, t128, t129)) else (some (t131, t128, t129)))) else (none)) = some (r1, r2, r3) := H
                  have A55 := Aside0.mk A550
                  clear A550
                  by_cases c56 : 0 < (t101.length : Int)
                  · rw [if_pos c56] at H
                    have c56b0 : decide (0 < (t101.length : Int)) = true := decide_eq_true c56
                    have c56b1 : decide (0 < t101.length) = true := decide_eq_true (by omega)
                    clear c56
                    obtain ⟨y130, hy130⟩ : ∃ y_ : List ByteArray, y_ = (t101.set (0 : Int).toNat t127) := ⟨_, rfl⟩
                    replace H : ((spec_l01Join.f y130).bind fun t131 => (if (t131.size : Int) > 255 then (some (a1, t128, t129)) else (some (t131, t128, t129)))) = some (r1, r2, r3) := by first | (rw [hy130]; with_reducible exact H) | (have H2_ := (Option.bind_some _ _).symm.trans H; rw [hy130]; with_reducible exact H2_) | (have H2_ := (Option.bind_some _ _).symm.trans H; with_reducible exact H2_) | with_reducible exact H | (rw [hy130]; exact H) | exact H
                    have Ny130 := Aside0.mk hy130
                    clear hy130
                    replace H := Option.bind_eq_some_iff.mp H
                    obtain ⟨t131, A580, H⟩ := H
                    replace H : (if (t131.size : Int) > 255 then (some (a1, t128, t129)) else (some (t131, t128, t129))) = some (r1, r2, r3) := H
                    have A58 := Aside0.mk A580
                    clear A580
                    by_cases c59 : (t131.size : Int) > 255
                    · rw [if_pos c59] at H
                      have c59b0 : decide (255 < (t131.size : Int)) = true := decide_eq_true c59
                      have c59b1 : decide (255 < t131.size) = true := decide_eq_true (by omega)
                      clear c59
                      simp only [Option.some.injEq, Prod.mk.injEq] at H
                      obtain ⟨rfl, rfl, rfl⟩ := H
                      obtain ⟨Ao60, co60, eo60⟩ := Kd.R_slice HO_5.out
                      subst eo60
                      go_wp2_with (first | ((with_reducible refine gate_callee (f := 69) rfl ?_); refine goesL_ (some 46) rfl rfl Try.func69 (by kernel_rfl) rfl #[.pointer (some ⟨g, 0, none⟩)] rfl (by (try simp only [List.map_toArray, List.map_cons, List.map_nil]); first | done | rfl | (simp only [List.length_drop, List.length_take]; rfl)) ?_; (with_reducible refine (spec_l01Label.calls kj29 g s0_0 t106 t107 t127 t128 t129 w0 _ ?side1 ?side2 A55.out).mono ?_); (case side1 => repeat (first | (with_reducible first | exact HI0.out | apply IsS64.alloc | apply IsS64.drewN | apply IsS64.drew | apply IsS64.set_1 | apply IsS64.set_2) | exact HI0.out)); (case side2 => repeat (first | (with_reducible first | exact HB.out | apply below_alloc | apply pw_below_drewN | apply below_drew1 | refine below_set ?_ (IsS64.ge HI0.out)) | exact HB.out)); rintro e w61 ⟨rfl, hi, hb, hk⟩; refine ⟨_, rfl, ?_⟩; have n0_ := Aside0.mk (Kd.R_mono (Kd.R_keep (IsS64.apart (show IsS64 w0 _ g s0_0 t106 t107 from by repeat (first | (with_reducible first | exact HI0.out | apply IsS64.alloc | apply IsS64.drewN | apply IsS64.drew | apply IsS64.set_1 | apply IsS64.set_2) | exact HI0.out)) (by (with_reducible repeat (first | apply Kd.R_alloc | apply Kd.R_drewN | apply Kd.R_drew)); exact HO_5.out) (by decide)) hk (fun _ h => h.2)) (fun _ h => h.1)); have n1_ := Aside0.mk (KeepBut.trans (by repeat (first | (with_reducible first | exact HK.out | apply KeepBut.set_ | apply keep_drewN | apply keep_drew | apply keep_alloc) | exact HK.out)) hk (.inl rfl)); have n2_ := Aside0.mk (hb); have n3_ := Aside0.mk (hi); clear HO_5; clear HK; clear HB; clear HI0; have HO_5 := n0_; have HK := n1_; have HB := n2_; have HI0 := n3_; clear n0_ n1_ n2_ n3_; (try clear hb); (try clear hb2); (try clear hk); (try clear hi); have p57 : 0 ≤ (0 : Int) := (by omega); have q57 : (0 : Int) < ((t101.length : Int) : Int) := of_decide_eq_true (by first | (with_reducible assumption) | assumption); have qi57 : (0 < t101.length) = True := eq_true (by omega); obtain ⟨go57, co57, eo57, gb57, gl57, cl57, HG57⟩ := Kd.R_form HO_5.out (by omega); (first | cases eo57 | (injection eo57 with ea_ en_ ec_; (first | subst ea_ | (injection ea_ with ea_; subst ea_)); subst ec_; clear en_)); have GB57 := Aside0.mk gb57; have GG57 := Aside0.mk HG57; clear gb57 gl57 HG57; obtain ⟨hx57_0, hf57_0⟩ := Kd.R_celln (⟨#[]⟩ : ByteArray) HO_5.out (0 : Int) p57 q57; (try rw [show ((0 : Int)).toNat = 0 from rfl] at hx57_0); (try simp only [Nat.reduceMul, Nat.zero_mul, Nat.zero_add, Nat.reduceAdd] at hx57_0); (try rw [show ((0 : Int)).toNat = 0 from rfl] at hf57_0); (try simp only [Nat.reduceMul, Nat.zero_mul, Nat.zero_add, Nat.reduceAdd] at hf57_0); replace p57 := eq_true p57; replace q57 := eq_true q57; obtain ⟨hy62_, hz62_⟩ := Kd.R_celln (⟨#[]⟩ : ByteArray) HO_5.out (0 : Int) (by omega) (of_decide_eq_true (by first | (with_reducible assumption) | assumption)); (try simp only [Int.reduceToNat, Int.toNat_zero, Int.toNat_ofNat, Nat.reduceMul, Nat.zero_mul, Nat.zero_add] at hy62_ hz62_); (try rw [show ((0 : Int)).toNat = 0 from rfl] at hy62_); (try rw [show ((0 : Int)).toNat = 0 from rfl] at hz62_); have HP62 := Kd.R_putg HO_5.out (0 : Int) t127) | ((with_reducible refine gate_store (t := 9) (p := 47) rfl ?_); refine store_event (t := 9) (p := 47) (v := ?vo_w63) (w1 := (w61.setCell ⟨go57, (0 : Int).toNat, none⟩ (.string t127))) ?hg ?ho ?hn ?hr ?_; (case ho => rfl); (case hg => rfl); (case hn => rfl); (case hr => first | (go_simp; done) | (go_simp; rfl)); intro w63 hw; have hg : w61.grownBy w63 (some go57) := (by rw [hw]; exact HP62.2); have hp_ : Kd.R Kd.string 9 w63 w.heap.size (fun _ => True) (.slice (some ⟨go57, 0, none⟩) t101.length co60) y130 := (by rw [hw, Ny130.out]; exact HP62.1); clear HP62; have n0_ := Aside0.mk (hp_); have n1_ := Aside0.mk (IsS64.grown (by repeat (first | (with_reducible first | exact HI0.out | apply IsS64.alloc | apply IsS64.drewN | apply IsS64.drew | apply IsS64.set_1 | apply IsS64.set_2) | exact HI0.out)) hg (IsS64.own_ne HI0.out HO_5.out (by decide))); have n2_ := Aside0.mk ((by rw [hw]; exact below_set (HB.out) (Nat.le_trans HL.out GB57.out) : Below w0.heap.size w0 w63)); have n3_ := Aside0.mk (KeepBut.trans (by repeat (first | (with_reducible first | exact HK.out | apply KeepBut.set_ | apply keep_drewN | apply keep_drew | apply keep_alloc) | exact HK.out)) (KeepBut.of_grown hg g) (Kd.R_base2 HO_5.out)); clear HO_5; clear HI0; clear HB; clear HK; have HO_5 := n0_; have HI0 := n1_; have HB := n2_; have HK := n3_; clear n0_ n1_ n2_ n3_; clear hg hw hp_) | ((with_reducible refine gate_callee (f := 36) rfl ?_); refine goesL_ (some 49) rfl rfl Try.func36 (by kernel_rfl) rfl #[.slice (some ⟨go57, 0, none⟩) y130.length co60] rfl (by (try simp only [List.map_toArray, List.map_cons, List.map_nil]); first | done | (rw [show y130.length = t101.length from (Kd.R_reads' HO_5.out).1.symm] <;> rfl) | rfl | (simp only [List.length_drop, List.length_take]; rfl)) ?_; (with_reducible refine (spec_l01Join.calls _ _ y130 t131 _ ?side1 ?side2 A58.out).mono ?_); (case side1 => repeat (first | exact (Kd.R_reads' HO_5.out).2.2 | (with_reducible refine Kd.C_alloc ?_ _) | (with_reducible refine Kd.C_drewN ?_ _) | (with_reducible refine Kd.C_drew ?_))); (case side2 => rw [show y130.length = t101.length from (Kd.R_reads' HO_5.out).1.symm]; exact (Kd.R_reads' HO_5.out).2.1); rintro e w64 ⟨rfl, hb⟩; refine ⟨_, rfl, ?_⟩; have n0_ := Aside0.mk (Kd.R_below (by (with_reducible repeat (first | apply Kd.R_alloc | apply Kd.R_drewN | apply Kd.R_drew)); exact HO_5.out) hb); have n1_ := Aside0.mk (IsS64.below (by repeat (first | (with_reducible first | exact HI0.out | apply IsS64.alloc | apply IsS64.drewN | apply IsS64.drew | apply IsS64.set_1 | apply IsS64.set_2) | exact HI0.out)) hb); have n2_ := Aside0.mk (KeepBut.trans (by repeat (first | (with_reducible first | exact HK.out | apply KeepBut.set_ | apply keep_drewN | apply keep_drew | apply keep_alloc) | exact HK.out)) (KeepBut.of_below hb g none) (.inl rfl)); have n3_ := Aside0.mk (below_step (by repeat (first | (with_reducible first | exact HB.out | apply below_alloc | apply pw_below_drewN | apply below_drew1 | refine below_set ?_ (IsS64.ge HI0.out)) | exact HB.out)) hb); clear HO_5; clear HI0; clear HK; clear HB; have HO_5 := n0_; have HI0 := n1_; have HK := n2_; have HB := n3_; clear n0_ n1_ n2_ n3_; (try clear hb); (try clear hb2); (try clear hk); (try clear hi)))
                      go_ret
                      exact ⟨by first | rfl | (simp [errW_none, errW_some] <;> rfl) | (simp [*, errW_none, errW_some] <;> rfl), by repeat (first | (with_reducible first | exact HI0.out | apply IsS64.alloc | apply IsS64.drewN | apply IsS64.drew | apply IsS64.set_1 | apply IsS64.set_2) | exact HI0.out), by repeat (first | (with_reducible first | exact HB.out | apply below_alloc | apply pw_below_drewN | apply below_drew1 | refine below_set ?_ (IsS64.ge HI0.out)) | exact HB.out), by repeat (first | (with_reducible first | exact HK.out | apply KeepBut.set_ | apply keep_drewN | apply keep_drew | apply keep_alloc) | exact HK.out)⟩
                    · rw [if_neg c59] at H
                      have c59b0 : decide (255 < (t131.size : Int)) = false := decide_eq_false c59
                      have c59b1 : decide (255 < t131.size) = false := decide_eq_false (by omega)
                      clear c59
                      simp only [Option.some.injEq, Prod.mk.injEq] at H
                      obtain ⟨rfl, rfl, rfl⟩ := H
                      obtain ⟨Ao65, co65, eo65⟩ := Kd.R_slice HO_5.out
                      subst eo65
                      go_wp2_with (first | ((with_reducible refine gate_callee (f := 69) rfl ?_); refine goesL_ (some 46) rfl rfl Try.func69 (by kernel_rfl) rfl #[.pointer (some ⟨g, 0, none⟩)] rfl (by (try simp only [List.map_toArray, List.map_cons, List.map_nil]); first | done | rfl | (simp only [List.length_drop, List.length_take]; rfl)) ?_; (with_reducible refine (spec_l01Label.calls kj29 g s0_0 t106 t107 t127 t128 t129 w0 _ ?side1 ?side2 A55.out).mono ?_); (case side1 => repeat (first | (with_reducible first | exact HI0.out | apply IsS64.alloc | apply IsS64.drewN | apply IsS64.drew | apply IsS64.set_1 | apply IsS64.set_2) | exact HI0.out)); (case side2 => repeat (first | (with_reducible first | exact HB.out | apply below_alloc | apply pw_below_drewN | apply below_drew1 | refine below_set ?_ (IsS64.ge HI0.out)) | exact HB.out)); rintro e w66 ⟨rfl, hi, hb, hk⟩; refine ⟨_, rfl, ?_⟩; have n0_ := Aside0.mk (Kd.R_mono (Kd.R_keep (IsS64.apart (show IsS64 w0 _ g s0_0 t106 t107 from by repeat (first | (with_reducible first | exact HI0.out | apply IsS64.alloc | apply IsS64.drewN | apply IsS64.drew | apply IsS64.set_1 | apply IsS64.set_2) | exact HI0.out)) (by (with_reducible repeat (first | apply Kd.R_alloc | apply Kd.R_drewN | apply Kd.R_drew)); exact HO_5.out) (by decide)) hk (fun _ h => h.2)) (fun _ h => h.1)); have n1_ := Aside0.mk (KeepBut.trans (by repeat (first | (with_reducible first | exact HK.out | apply KeepBut.set_ | apply keep_drewN | apply keep_drew | apply keep_alloc) | exact HK.out)) hk (.inl rfl)); have n2_ := Aside0.mk (hb); have n3_ := Aside0.mk (hi); clear HO_5; clear HK; clear HB; clear HI0; have HO_5 := n0_; have HK := n1_; have HB := n2_; have HI0 := n3_; clear n0_ n1_ n2_ n3_; (try clear hb); (try clear hb2); (try clear hk); (try clear hi); have p57 : 0 ≤ (0 : Int) := (by omega); have q57 : (0 : Int) < ((t101.length : Int) : Int) := of_decide_eq_true (by first | (with_reducible assumption) | assumption); have qi57 : (0 < t101.length) = True := eq_true (by omega); obtain ⟨go57, co57, eo57, gb57, gl57, cl57, HG57⟩ := Kd.R_form HO_5.out (by omega); (first | cases eo57 | (injection eo57 with ea_ en_ ec_; (first | subst ea_ | (injection ea_ with ea_; subst ea_)); subst ec_; clear en_)); have GB57 := Aside0.mk gb57; have GG57 := Aside0.mk HG57; clear gb57 gl57 HG57; obtain ⟨hx57_0, hf57_0⟩ := Kd.R_celln (⟨#[]⟩ : ByteArray) HO_5.out (0 : Int) p57 q57; (try rw [show ((0 : Int)).toNat = 0 from rfl] at hx57_0); (try simp only [Nat.reduceMul, Nat.zero_mul, Nat.zero_add, Nat.reduceAdd] at hx57_0); (try rw [show ((0 : Int)).toNat = 0 from rfl] at hf57_0); (try simp only [Nat.reduceMul, Nat.zero_mul, Nat.zero_add, Nat.reduceAdd] at hf57_0); replace p57 := eq_true p57; replace q57 := eq_true q57; obtain ⟨hy67_, hz67_⟩ := Kd.R_celln (⟨#[]⟩ : ByteArray) HO_5.out (0 : Int) (by omega) (of_decide_eq_true (by first | (with_reducible assumption) | assumption)); (try simp only [Int.reduceToNat, Int.toNat_zero, Int.toNat_ofNat, Nat.reduceMul, Nat.zero_mul, Nat.zero_add] at hy67_ hz67_); (try rw [show ((0 : Int)).toNat = 0 from rfl] at hy67_); (try rw [show ((0 : Int)).toNat = 0 from rfl] at hz67_); have HP67 := Kd.R_putg HO_5.out (0 : Int) t127) | ((with_reducible refine gate_store (t := 9) (p := 47) rfl ?_); refine store_event (t := 9) (p := 47) (v := ?vo_w68) (w1 := (w66.setCell ⟨go57, (0 : Int).toNat, none⟩ (.string t127))) ?hg ?ho ?hn ?hr ?_; (case ho => rfl); (case hg => rfl); (case hn => rfl); (case hr => first | (go_simp; done) | (go_simp; rfl)); intro w68 hw; have hg : w66.grownBy w68 (some go57) := (by rw [hw]; exact HP67.2); have hp_ : Kd.R Kd.string 9 w68 w.heap.size (fun _ => True) (.slice (some ⟨go57, 0, none⟩) t101.length co65) y130 := (by rw [hw, Ny130.out]; exact HP67.1); clear HP67; have n0_ := Aside0.mk (hp_); have n1_ := Aside0.mk (IsS64.grown (by repeat (first | (with_reducible first | exact HI0.out | apply IsS64.alloc | apply IsS64.drewN | apply IsS64.drew | apply IsS64.set_1 | apply IsS64.set_2) | exact HI0.out)) hg (IsS64.own_ne HI0.out HO_5.out (by decide))); have n2_ := Aside0.mk ((by rw [hw]; exact below_set (HB.out) (Nat.le_trans HL.out GB57.out) : Below w0.heap.size w0 w68)); have n3_ := Aside0.mk (KeepBut.trans (by repeat (first | (with_reducible first | exact HK.out | apply KeepBut.set_ | apply keep_drewN | apply keep_drew | apply keep_alloc) | exact HK.out)) (KeepBut.of_grown hg g) (Kd.R_base2 HO_5.out)); clear HO_5; clear HI0; clear HB; clear HK; have HO_5 := n0_; have HI0 := n1_; have HB := n2_; have HK := n3_; clear n0_ n1_ n2_ n3_; clear hg hw hp_) | ((with_reducible refine gate_callee (f := 36) rfl ?_); refine goesL_ (some 49) rfl rfl Try.func36 (by kernel_rfl) rfl #[.slice (some ⟨go57, 0, none⟩) y130.length co65] rfl (by (try simp only [List.map_toArray, List.map_cons, List.map_nil]); first | done | (rw [show y130.length = t101.length from (Kd.R_reads' HO_5.out).1.symm] <;> rfl) | rfl | (simp only [List.length_drop, List.length_take]; rfl)) ?_; (with_reducible refine (spec_l01Join.calls _ _ y130 t131 _ ?side1 ?side2 A58.out).mono ?_); (case side1 => repeat (first | exact (Kd.R_reads' HO_5.out).2.2 | (with_reducible refine Kd.C_alloc ?_ _) | (with_reducible refine Kd.C_drewN ?_ _) | (with_reducible refine Kd.C_drew ?_))); (case side2 => rw [show y130.length = t101.length from (Kd.R_reads' HO_5.out).1.symm]; exact (Kd.R_reads' HO_5.out).2.1); rintro e w69 ⟨rfl, hb⟩; refine ⟨_, rfl, ?_⟩; have n0_ := Aside0.mk (Kd.R_below (by (with_reducible repeat (first | apply Kd.R_alloc | apply Kd.R_drewN | apply Kd.R_drew)); exact HO_5.out) hb); have n1_ := Aside0.mk (IsS64.below (by repeat (first | (with_reducible first | exact HI0.out | apply IsS64.alloc | apply IsS64.drewN | apply IsS64.drew | apply IsS64.set_1 | apply IsS64.set_2) | exact HI0.out)) hb); have n2_ := Aside0.mk (KeepBut.trans (by repeat (first | (with_reducible first | exact HK.out | apply KeepBut.set_ | apply keep_drewN | apply keep_drew | apply keep_alloc) | exact HK.out)) (KeepBut.of_below hb g none) (.inl rfl)); have n3_ := Aside0.mk (below_step (by repeat (first | (with_reducible first | exact HB.out | apply below_alloc | apply pw_below_drewN | apply below_drew1 | refine below_set ?_ (IsS64.ge HI0.out)) | exact HB.out)) hb); clear HO_5; clear HI0; clear HK; clear HB; have HO_5 := n0_; have HI0 := n1_; have HK := n2_; have HB := n3_; clear n0_ n1_ n2_ n3_; (try clear hb); (try clear hb2); (try clear hk); (try clear hi)))
                      go_ret
                      exact ⟨by first | rfl | (simp [errW_none, errW_some] <;> rfl) | (simp [*, errW_none, errW_some] <;> rfl), by repeat (first | (with_reducible first | exact HI0.out | apply IsS64.alloc | apply IsS64.drewN | apply IsS64.drew | apply IsS64.set_1 | apply IsS64.set_2) | exact HI0.out), by repeat (first | (with_reducible first | exact HB.out | apply below_alloc | apply pw_below_drewN | apply below_drew1 | refine below_set ?_ (IsS64.ge HI0.out)) | exact HB.out), by repeat (first | (with_reducible first | exact HK.out | apply KeepBut.set_ | apply keep_drewN | apply keep_drew | apply keep_alloc) | exact HK.out)⟩
                  · rw [if_neg c56] at H
                    exact absurd H (by simp)
                · rw [if_neg c54] at H
                  have c54b0 : decide (0 < (t101.length : Int)) = false := decide_eq_false c54
                  have c54b1 : decide (0 < t101.length) = false := decide_eq_false (by omega)
                  clear c54
                  replace H := Option.bind_eq_some_iff.mp H
                  obtain ⟨t132, A700, H⟩ := H
                  replace H : (if (t132.size : Int) > 255 then (some (a1, t106, t107)) else (some (t132, t106, t107))) = some (r1, r2, r3) := H
                  have A70 := Aside0.mk A700
                  clear A700
                  by_cases c71 : (t132.size : Int) > 255
                  · rw [if_pos c71] at H
                    have c71b0 : decide (255 < (t132.size : Int)) = true := decide_eq_true c71
                    have c71b1 : decide (255 < t132.size) = true := decide_eq_true (by omega)
                    clear c71
                    simp only [Option.some.injEq, Prod.mk.injEq] at H
                    obtain ⟨rfl, rfl, rfl⟩ := H
                    obtain ⟨Ao72, co72, eo72⟩ := Kd.R_slice HO_5.out
                    subst eo72
                    go_wp2_with (first | ((with_reducible refine gate_callee (f := 36) rfl ?_); refine goesL_ (some 49) rfl rfl Try.func36 (by kernel_rfl) rfl #[.slice Ao72 t101.length co72] rfl (by (try simp only [List.map_toArray, List.map_cons, List.map_nil]); first | done | rfl | (simp only [List.length_drop, List.length_take]; rfl)) ?_; (with_reducible refine (spec_l01Join.calls _ _ t101 t132 _ ?side1 ?side2 A70.out).mono ?_); (case side1 => repeat (first | exact (Kd.R_reads' HO_5.out).2.2 | (with_reducible refine Kd.C_alloc ?_ _) | (with_reducible refine Kd.C_drewN ?_ _) | (with_reducible refine Kd.C_drew ?_))); (case side2 => exact (Kd.R_reads' HO_5.out).2.1); rintro e w73 ⟨rfl, hb⟩; refine ⟨_, rfl, ?_⟩; have n0_ := Aside0.mk (Kd.R_below (by (with_reducible repeat (first | apply Kd.R_alloc | apply Kd.R_drewN | apply Kd.R_drew)); exact HO_5.out) hb); have n1_ := Aside0.mk (IsS64.below (by repeat (first | (with_reducible first | exact HI0.out | apply IsS64.alloc | apply IsS64.drewN | apply IsS64.drew | apply IsS64.set_1 | apply IsS64.set_2) | exact HI0.out)) hb); have n2_ := Aside0.mk (KeepBut.trans (by repeat (first | (with_reducible first | exact HK.out | apply KeepBut.set_ | apply keep_drewN | apply keep_drew | apply keep_alloc) | exact HK.out)) (KeepBut.of_below hb g none) (.inl rfl)); have n3_ := Aside0.mk (below_step (by repeat (first | (with_reducible first | exact HB.out | apply below_alloc | apply pw_below_drewN | apply below_drew1 | refine below_set ?_ (IsS64.ge HI0.out)) | exact HB.out)) hb); clear HO_5; clear HI0; clear HK; clear HB; have HO_5 := n0_; have HI0 := n1_; have HK := n2_; have HB := n3_; clear n0_ n1_ n2_ n3_; (try clear hb); (try clear hb2); (try clear hk); (try clear hi)))
                    go_ret
                    exact ⟨by first | rfl | (simp [errW_none, errW_some] <;> rfl) | (simp [*, errW_none, errW_some] <;> rfl), by repeat (first | (with_reducible first | exact HI0.out | apply IsS64.alloc | apply IsS64.drewN | apply IsS64.drew | apply IsS64.set_1 | apply IsS64.set_2) | exact HI0.out), by repeat (first | (with_reducible first | exact HB.out | apply below_alloc | apply pw_below_drewN | apply below_drew1 | refine below_set ?_ (IsS64.ge HI0.out)) | exact HB.out), by repeat (first | (with_reducible first | exact HK.out | apply KeepBut.set_ | apply keep_drewN | apply keep_drew | apply keep_alloc) | exact HK.out)⟩
                  · rw [if_neg c71] at H
                    have c71b0 : decide (255 < (t132.size : Int)) = false := decide_eq_false c71
                    have c71b1 : decide (255 < t132.size) = false := decide_eq_false (by omega)
                    clear c71
                    simp only [Option.some.injEq, Prod.mk.injEq] at H
                    obtain ⟨rfl, rfl, rfl⟩ := H
                    obtain ⟨Ao74, co74, eo74⟩ := Kd.R_slice HO_5.out
                    subst eo74
                    go_wp2_with (first | ((with_reducible refine gate_callee (f := 36) rfl ?_); refine goesL_ (some 49) rfl rfl Try.func36 (by kernel_rfl) rfl #[.slice Ao74 t101.length co74] rfl (by (try simp only [List.map_toArray, List.map_cons, List.map_nil]); first | done | rfl | (simp only [List.length_drop, List.length_take]; rfl)) ?_; (with_reducible refine (spec_l01Join.calls _ _ t101 t132 _ ?side1 ?side2 A70.out).mono ?_); (case side1 => repeat (first | exact (Kd.R_reads' HO_5.out).2.2 | (with_reducible refine Kd.C_alloc ?_ _) | (with_reducible refine Kd.C_drewN ?_ _) | (with_reducible refine Kd.C_drew ?_))); (case side2 => exact (Kd.R_reads' HO_5.out).2.1); rintro e w75 ⟨rfl, hb⟩; refine ⟨_, rfl, ?_⟩; have n0_ := Aside0.mk (Kd.R_below (by (with_reducible repeat (first | apply Kd.R_alloc | apply Kd.R_drewN | apply Kd.R_drew)); exact HO_5.out) hb); have n1_ := Aside0.mk (IsS64.below (by repeat (first | (with_reducible first | exact HI0.out | apply IsS64.alloc | apply IsS64.drewN | apply IsS64.drew | apply IsS64.set_1 | apply IsS64.set_2) | exact HI0.out)) hb); have n2_ := Aside0.mk (KeepBut.trans (by repeat (first | (with_reducible first | exact HK.out | apply KeepBut.set_ | apply keep_drewN | apply keep_drew | apply keep_alloc) | exact HK.out)) (KeepBut.of_below hb g none) (.inl rfl)); have n3_ := Aside0.mk (below_step (by repeat (first | (with_reducible first | exact HB.out | apply below_alloc | apply pw_below_drewN | apply below_drew1 | refine below_set ?_ (IsS64.ge HI0.out)) | exact HB.out)) hb); clear HO_5; clear HI0; clear HK; clear HB; have HO_5 := n0_; have HI0 := n1_; have HK := n2_; have HB := n3_; clear n0_ n1_ n2_ n3_; (try clear hb); (try clear hb2); (try clear hk); (try clear hi)))
                    go_ret
                    exact ⟨by first | rfl | (simp [errW_none, errW_some] <;> rfl) | (simp [*, errW_none, errW_some] <;> rfl), by repeat (first | (with_reducible first | exact HI0.out | apply IsS64.alloc | apply IsS64.drewN | apply IsS64.drew | apply IsS64.set_1 | apply IsS64.set_2) | exact HI0.out), by repeat (first | (with_reducible first | exact HB.out | apply below_alloc | apply pw_below_drewN | apply below_drew1 | refine below_set ?_ (IsS64.ge HI0.out)) | exact HB.out), by repeat (first | (with_reducible first | exact HK.out | apply KeepBut.set_ | apply keep_drewN | apply keep_drew | apply keep_alloc) | exact HK.out)⟩
              · rw [if_neg c53] at H
                have c53b0 : (t105 == 4) = false := beq_eq_false_iff_ne.mpr c53
                have c53b1 : (t105 != 4) = true := bne_iff_ne.mpr c53
                replace H := Option.bind_eq_some_iff.mp H
                obtain ⟨t133, A760, H⟩ := H
                replace H : (if (t133.size : Int) > 255 then (some (a1, t106, t107)) else (some (t133, t106, t107))) = some (r1, r2, r3) := H
                have A76 := Aside0.mk A760
                clear A760
                by_cases c77 : (t133.size : Int) > 255
                · rw [if_pos c77] at H
                  have c77b0 : decide (255 < (t133.size : Int)) = true := decide_eq_true c77
                  have c77b1 : decide (255 < t133.size) = true := decide_eq_true (by omega)
                  clear c77
                  simp only [Option.some.injEq, Prod.mk.injEq] at H
                  obtain ⟨rfl, rfl, rfl⟩ := H
                  obtain ⟨Ao78, co78, eo78⟩ := Kd.R_slice HO_5.out
                  subst eo78
                  go_wp2_with (first | ((with_reducible refine gate_callee (f := 36) rfl ?_); refine goesL_ (some 49) rfl rfl Try.func36 (by kernel_rfl) rfl #[.slice Ao78 t101.length co78] rfl (by (try simp only [List.map_toArray, List.map_cons, List.map_nil]); first | done | rfl | (simp only [List.length_drop, List.length_take]; rfl)) ?_; (with_reducible refine (spec_l01Join.calls _ _ t101 t133 _ ?side1 ?side2 A76.out).mono ?_); (case side1 => repeat (first | exact (Kd.R_reads' HO_5.out).2.2 | (with_reducible refine Kd.C_alloc ?_ _) | (with_reducible refine Kd.C_drewN ?_ _) | (with_reducible refine Kd.C_drew ?_))); (case side2 => exact (Kd.R_reads' HO_5.out).2.1); rintro e w79 ⟨rfl, hb⟩; refine ⟨_, rfl, ?_⟩; have n0_ := Aside0.mk (Kd.R_below (by (with_reducible repeat (first | apply Kd.R_alloc | apply Kd.R_drewN | apply Kd.R_drew)); exact HO_5.out) hb); have n1_ := Aside0.mk (IsS64.below (by repeat (first | (with_reducible first | exact HI0.out | apply IsS64.alloc | apply IsS64.drewN | apply IsS64.drew | apply IsS64.set_1 | apply IsS64.set_2) | exact HI0.out)) hb); have n2_ := Aside0.mk (KeepBut.trans (by repeat (first | (with_reducible first | exact HK.out | apply KeepBut.set_ | apply keep_drewN | apply keep_drew | apply keep_alloc) | exact HK.out)) (KeepBut.of_below hb g none) (.inl rfl)); have n3_ := Aside0.mk (below_step (by repeat (first | (with_reducible first | exact HB.out | apply below_alloc | apply pw_below_drewN | apply below_drew1 | refine below_set ?_ (IsS64.ge HI0.out)) | exact HB.out)) hb); clear HO_5; clear HI0; clear HK; clear HB; have HO_5 := n0_; have HI0 := n1_; have HK := n2_; have HB := n3_; clear n0_ n1_ n2_ n3_; (try clear hb); (try clear hb2); (try clear hk); (try clear hi)))
                  go_ret
                  exact ⟨by first | rfl | (simp [errW_none, errW_some] <;> rfl) | (simp [*, errW_none, errW_some] <;> rfl), by repeat (first | (with_reducible first | exact HI0.out | apply IsS64.alloc | apply IsS64.drewN | apply IsS64.drew | apply IsS64.set_1 | apply IsS64.set_2) | exact HI0.out), by repeat (first | (with_reducible first | exact HB.out | apply below_alloc | apply pw_below_drewN | apply below_drew1 | refine below_set ?_ (IsS64.ge HI0.out)) | exact HB.out), by repeat (first | (with_reducible first | exact HK.out | apply KeepBut.set_ | apply keep_drewN | apply keep_drew | apply keep_alloc) | exact HK.out)⟩
                · rw [if_neg c77] at H
                  have c77b0 : decide (255 < (t133.size : Int)) = false := decide_eq_false c77
                  have c77b1 : decide (255 < t133.size) = false := decide_eq_false (by omega)
                  clear c77
                  simp only [Option.some.injEq, Prod.mk.injEq] at H
                  obtain ⟨rfl, rfl, rfl⟩ := H
                  obtain ⟨Ao80, co80, eo80⟩ := Kd.R_slice HO_5.out
                  subst eo80
                  go_wp2_with (first | ((with_reducible refine gate_callee (f := 36) rfl ?_); refine goesL_ (some 49) rfl rfl Try.func36 (by kernel_rfl) rfl #[.slice Ao80 t101.length co80] rfl (by (try simp only [List.map_toArray, List.map_cons, List.map_nil]); first | done | rfl | (simp only [List.length_drop, List.length_take]; rfl)) ?_; (with_reducible refine (spec_l01Join.calls _ _ t101 t133 _ ?side1 ?side2 A76.out).mono ?_); (case side1 => repeat (first | exact (Kd.R_reads' HO_5.out).2.2 | (with_reducible refine Kd.C_alloc ?_ _) | (with_reducible refine Kd.C_drewN ?_ _) | (with_reducible refine Kd.C_drew ?_))); (case side2 => exact (Kd.R_reads' HO_5.out).2.1); rintro e w81 ⟨rfl, hb⟩; refine ⟨_, rfl, ?_⟩; have n0_ := Aside0.mk (Kd.R_below (by (with_reducible repeat (first | apply Kd.R_alloc | apply Kd.R_drewN | apply Kd.R_drew)); exact HO_5.out) hb); have n1_ := Aside0.mk (IsS64.below (by repeat (first | (with_reducible first | exact HI0.out | apply IsS64.alloc | apply IsS64.drewN | apply IsS64.drew | apply IsS64.set_1 | apply IsS64.set_2) | exact HI0.out)) hb); have n2_ := Aside0.mk (KeepBut.trans (by repeat (first | (with_reducible first | exact HK.out | apply KeepBut.set_ | apply keep_drewN | apply keep_drew | apply keep_alloc) | exact HK.out)) (KeepBut.of_below hb g none) (.inl rfl)); have n3_ := Aside0.mk (below_step (by repeat (first | (with_reducible first | exact HB.out | apply below_alloc | apply pw_below_drewN | apply below_drew1 | refine below_set ?_ (IsS64.ge HI0.out)) | exact HB.out)) hb); clear HO_5; clear HI0; clear HK; clear HB; have HO_5 := n0_; have HI0 := n1_; have HK := n2_; have HB := n3_; clear n0_ n1_ n2_ n3_; (try clear hb); (try clear hb2); (try clear hk); (try clear hi)))
                  go_ret
                  exact ⟨by first | rfl | (simp [errW_none, errW_some] <;> rfl) | (simp [*, errW_none, errW_some] <;> rfl), by repeat (first | (with_reducible first | exact HI0.out | apply IsS64.alloc | apply IsS64.drewN | apply IsS64.drew | apply IsS64.set_1 | apply IsS64.set_2) | exact HI0.out), by repeat (first | (with_reducible first | exact HB.out | apply below_alloc | apply pw_below_drewN | apply below_drew1 | refine below_set ?_ (IsS64.ge HI0.out)) | exact HB.out), by repeat (first | (with_reducible first | exact HK.out | apply KeepBut.set_ | apply keep_drewN | apply keep_drew | apply keep_alloc) | exact HK.out)⟩
  · replace c4 := Bool.eq_false_iff.mpr c4
    subst c4
    have H1 : (some (a1, s0_1, s0_2)) = some (r1, r2, r3) := by rw [if_neg (show ¬ (false = true) by decide)] at H; exact H
    clear H
    have H := H1
    clear H1
    simp only [Option.some.injEq, Prod.mk.injEq] at H
    obtain ⟨rfl, rfl, rfl⟩ := H
    go_enter Try.func49, Try.ntmps49
    go_wp2_with (first | ((with_reducible refine gate_callee (f := 34) rfl ?_); refine goesL_ (some 10) rfl rfl Try.func34 (by kernel_rfl) rfl #[.string a1] rfl (by (try simp only [List.map_toArray, List.map_cons, List.map_nil]); first | done | rfl | (simp only [List.length_drop, List.length_take]; rfl)) ?_; (with_reducible refine (spec_l01Split.calls k a1 t101 false _ A3.out).mono ?_); rintro e w82 ⟨v103, rfl, ho0, hb⟩; refine ⟨_, rfl, ?_⟩; have n0_ := Aside0.mk (Kd.R_lower ho0 (keep_size (w := w) (g := g) (row := none) (by repeat (first | (with_reducible first | exact HK.out | apply KeepBut.set_ | apply keep_drewN | apply keep_drew | apply keep_alloc) | exact HK.out)))); have n1_ := Aside0.mk (IsS64.below (by repeat (first | (with_reducible first | exact HI0.out | apply IsS64.alloc | apply IsS64.drewN | apply IsS64.drew | apply IsS64.set_1 | apply IsS64.set_2) | exact HI0.out)) hb); have n2_ := Aside0.mk (KeepBut.trans (by repeat (first | (with_reducible first | exact HK.out | apply KeepBut.set_ | apply keep_drewN | apply keep_drew | apply keep_alloc) | exact HK.out)) (KeepBut.of_below hb g none) (.inl rfl)); have n3_ := Aside0.mk (below_step (by repeat (first | (with_reducible first | exact HB.out | apply below_alloc | apply pw_below_drewN | apply below_drew1 | refine below_set ?_ (IsS64.ge HI0.out)) | exact HB.out)) hb); clear HI0; clear HK; clear HB; have HO104 := n0_; have HI0 := n1_; have HK := n2_; have HB := n3_; clear n0_ n1_ n2_ n3_; (try clear hb); (try clear hb2); (try clear hk); (try clear hi); (try clear ho0)))
    go_ret
    exact ⟨by first | rfl | (simp [errW_none, errW_some] <;> rfl) | (simp [*, errW_none, errW_some] <;> rfl), by repeat (first | (with_reducible first | exact HI0.out | apply IsS64.alloc | apply IsS64.drewN | apply IsS64.drew | apply IsS64.set_1 | apply IsS64.set_2) | exact HI0.out), by repeat (first | (with_reducible first | exact HB.out | apply below_alloc | apply pw_below_drewN | apply below_drew1 | refine below_set ?_ (IsS64.ge HI0.out)) | exact HB.out), by repeat (first | (with_reducible first | exact HK.out | apply KeepBut.set_ | apply keep_drewN | apply keep_drew | apply keep_alloc) | exact HK.out)⟩

end Go.Proofs.Ytpbmnokmpihnjaa.F
namespace Go.Proofs.Ytpbmnokmpihnjaa.F
open Go Go.Shelf Go.RowKit Go.Proofs.YtpbmnokmpihnjaaW.PrintWords Go.Proofs.YtpbmnokmpihnjaaW.PrintLast Go.Proofs.YtpbmnokmpihnjaaW.PrintMore
attribute [local go_sem] max2_int min2_int max_two min_two max_three min_three max_four min_four   -- for this text's walks alone
set_option linter.unusedVariables false
set_option linter.unusedSimpArgs false

/-! ### spec_DrawReplaceTail: function 23 -/
def spec_DrawReplaceTail.f (k : Nat) (l0 : List Int) : Option (ByteArray × ByteArray × ByteArray) := if 140737488355328 < l0.length then none else (spec_l01Raw.f k l0 0 (spec_l01Begin.f l0)).bind fun a => (spec_l01Near.f k l0 a.2.1 a.2.2 a.1).bind fun b => (spec_l01Near.f k l0 b.2.1 b.2.2 b.1).bind fun c => (spec_l01Case.f k l0 c.2.1 c.2.2 a.1).bind fun d => (spec_l01Raw.f k l0 d.2.1 d.2.2).bind fun e => some (c.1, d.1, e.1)
theorem spec_DrawReplaceTail.mono : ∀ a0 k, LeO (spec_DrawReplaceTail.f k a0) (spec_DrawReplaceTail.f (k + 1) a0) := by
  intro a0 k
  unfold spec_DrawReplaceTail.f
  exact LeO.ite (LeO.refl _) (LeO.bind (spec_l01Raw.mono _ _ _ _) (fun _ => LeO.bind (spec_l01Near.mono _ _ _ _ _) (fun _ => LeO.bind (spec_l01Near.mono _ _ _ _ _) (fun _ => LeO.bind (spec_l01Case.mono _ _ _ _ _) (fun _ => LeO.bind (spec_l01Raw.mono _ _ _ _) (fun _ => LeO.refl _))))))
set_option maxHeartbeats 8000000 in
set_option maxRecDepth 100000 in
theorem spec_DrawReplaceTail.calls (k : Nat) (A0 : Option Addr) (c0 : Nat) (l0 : List Int) (r0 : ByteArray) (r1 : ByteArray) (r2 : ByteArray) (w : World) (hr0 : Kd.C (Kd.int .u8) w A0 l0.length l0) (hc0 : l0.length ≤ c0) (h : spec_DrawReplaceTail.f k l0 = some (r0, r1, r2)) :
    Calls Try.prog 23 #[.slice A0 l0.length c0] w fun e w' => e = .returned (.tuple #[.string r0, .string r1, .string r2]) ∧ Below w.heap.size w w' := by
  unfold spec_DrawReplaceTail.f at h
  split at h
  case isTrue => cases h
  case isFalse hs =>
  replace h := Option.bind_eq_some_iff.mp h
  obtain ⟨⟨a, p1, p2⟩, A1, h⟩ := h
  replace h := Option.bind_eq_some_iff.mp h
  obtain ⟨⟨b, p3, p4⟩, A2, h⟩ := h
  replace h := Option.bind_eq_some_iff.mp h
  obtain ⟨⟨c, p5, p6⟩, A3, h⟩ := h
  replace h := Option.bind_eq_some_iff.mp h
  obtain ⟨⟨d, p7, p8⟩, A4, h⟩ := h
  replace h := Option.bind_eq_some_iff.mp h
  obtain ⟨⟨e, p9, p10⟩, A5, h⟩ := h
  simp only [Option.some.injEq, Prod.mk.injEq] at h
  obtain ⟨rfl, rfl, rfl⟩ := h
  replace A2 : spec_l01Near.f k l0 p1 p2 a = some (b, p3, p4) := A2
  replace A3 : spec_l01Near.f k l0 p3 p4 b = some (c, p5, p6) := A3
  replace A4 : spec_l01Case.f k l0 p5 p6 a = some (d, p7, p8) := A4
  replace A5 : spec_l01Raw.f k l0 p7 p8 = some (e, p9, p10) := A5
  have H1 := Aside0.mk A1
  have H2 := Aside0.mk A2
  have H3 := Aside0.mk A3
  have H4 := Aside0.mk A4
  have H5 := Aside0.mk A5
  have HR := Aside0.mk hr0
  have HS := Aside0.mk hs
  clear A1 A2 A3 A4 A5 hr0 hs
  go_enter Try.func23, Try.ntmps23
  go_wp2_with (first | (go_at_call 47; refine (spec_l01Begin.calls _ _ l0 _ HR.out hc0 (by have := HS.out; omega)).mono ?_; rintro e w1 ⟨rfl, hb⟩; have HI := Aside0.mk (IsS64.new w w1 A0 c0 l0 0 (spec_l01Begin.f l0) hb HR.out); have HB := Aside0.mk (below_alloc hb (.cells #[.slice A0 l0.length c0, .int .i64 0, .int .u64 (spec_l01Begin.f l0)] 64)); clear hb) | (go_at_call 48; refine (spec_l01Raw.calls k _ _ _ _ _ _ _ w _ HI.out HB.out H1.out).mono ?_; rintro e w2 ⟨rfl, hI, hb, hk⟩; have HI2 := Aside0.mk hI; have HB2 := Aside0.mk hb; clear hI hb hk HI HB H1) | (go_at_call 49; refine (spec_l01Near.calls k _ _ _ _ _ _ _ _ w _ HI2.out HB2.out H2.out).mono ?_; rintro e w3 ⟨rfl, hI, hb, hk⟩; have HI3 := Aside0.mk hI; have HB3 := Aside0.mk hb; clear hI hb hk HI2 HB2 H2) | (go_at_call 49; refine (spec_l01Near.calls k _ _ _ _ _ _ _ _ w _ HI3.out HB3.out H3.out).mono ?_; rintro e w4 ⟨rfl, hI, hb, hk⟩; have HI4 := Aside0.mk hI; have HB4 := Aside0.mk hb; clear hI hb hk HI3 HB3 H3) | (go_at_call 50; refine (spec_l01Case.calls k _ _ _ _ _ _ _ _ w _ HI4.out HB4.out H4.out).mono ?_; rintro e w5 ⟨rfl, hI, hb, hk⟩; have HI5 := Aside0.mk hI; have HB5 := Aside0.mk hb; clear hI hb hk HI4 HB4 H4) | (go_at_call 48; refine (spec_l01Raw.calls k _ _ _ _ _ _ _ w _ HI5.out HB5.out H5.out).mono ?_; rintro e w6 ⟨rfl, hI, hb, hk⟩; have HB6 := Aside0.mk hb; clear hI hb hk))
  go_ret3
  exact ⟨rfl, HB6.out⟩

end Go.Proofs.Ytpbmnokmpihnjaa.F
namespace Go.Proofs.Ytpbmnokmpihnjaa.F
open Go Go.Shelf Go.RowKit Go.Proofs.YtpbmnokmpihnjaaW.PrintWords Go.Proofs.YtpbmnokmpihnjaaW.PrintLast Go.Proofs.YtpbmnokmpihnjaaW.PrintMore
attribute [local go_sem] max2_int min2_int max_two min_two max_three min_three max_four min_four   -- for this text's walks alone
set_option linter.unusedVariables false
set_option linter.unusedSimpArgs false

/-! ### impl_Labels: function 24 -/
def impl_Labels.f (k : Nat) (a0 : ByteArray) : Option (List ByteArray) := (impl_labelsOf.f k a0).bind fun bt101 => (if bt101.2 = true then (some bt101.1) else (some ([] : List ByteArray)))
theorem impl_Labels.mono : ∀ a0 k, LeO (impl_Labels.f k a0) (impl_Labels.f (k + 1) a0) := by
  intro a0 k
  unfold impl_Labels.f
  repeat' first
      | (with_reducible exact impl_labelsOf.mono _ _)
      | (with_reducible exact LeO.refl _)
      | (with_reducible exact LeO.none _)
      | (with_reducible refine LeO.ite ?_ ?_)
      | (with_reducible refine LeO.bind ?_ (fun _ => ?_))
      | exact impl_labelsOf.mono _ _
      | exact LeO.none _
      | refine LeO.ite ?_ ?_
      | refine LeO.bind ?_ (fun _ => ?_)
set_option maxHeartbeats 8000000 in
set_option maxRecDepth 100000 in
theorem impl_Labels.calls (k : Nat) (a0 : ByteArray) (r : List ByteArray) (w : World) (h : impl_Labels.f k a0 = some r) :
    Calls Try.prog 24 #[.string a0] w fun e w' => ∃ v0_ : Value, e = .returned (v0_) ∧ Kd.R Kd.string 9 w' w.heap.size (fun _ => True) v0_ r ∧ Below w.heap.size w w' := by
  have HB := Aside0.mk (Below.refl w.heap.size w)
  have H : ((impl_labelsOf.f k a0).bind fun bt101 => (if bt101.2 = true then (some bt101.1) else (some ([] : List ByteArray)))) = some r := h
  clear h
  replace H := Option.bind_eq_some_iff.mp H
  obtain ⟨⟨t101, t102⟩, A20, H⟩ := H
  replace H : (if t102 = true then (some t101) else (some ([] : List ByteArray))) = some r := H
  have A2 := Aside0.mk A20
  clear A20
  by_cases c3 : t102 = true
  · subst c3
    have H1 : (some t101) = some r := by rw [if_pos rfl] at H; exact H
    clear H
    have H := H1
    clear H1
    obtain rfl := Option.some.inj H
    go_enter Try.func24, Try.ntmps24
    go_wp2_with (first | ((with_reducible refine gate_callee (f := 37) rfl ?_); refine goesL_ (some 7) rfl rfl Try.func37 (by kernel_rfl) rfl #[.string a0] rfl (by (try simp only [List.map_toArray, List.map_cons, List.map_nil]); first | done | rfl | (simp only [List.length_drop, List.length_take]; rfl)) ?_; (with_reducible refine (impl_labelsOf.calls k a0 t101 true _ A2.out).mono ?_); rintro e w4 ⟨v103, rfl, ho0, hb⟩; refine ⟨_, rfl, ?_⟩; have n0_ := Aside0.mk (Kd.R_lower ho0 (below_size (by repeat (first | (with_reducible first | exact HB.out | apply below_alloc | apply pw_below_drewN | apply below_drew1) | exact HB.out)))); have n1_ := Aside0.mk (below_step (by repeat (first | (with_reducible first | exact HB.out | apply below_alloc | apply pw_below_drewN | apply below_drew1) | exact HB.out)) hb); clear HB; have HO104 := n0_; have HB := n1_; clear n0_ n1_; (try clear hb); (try clear hb2); (try clear hk); (try clear hi); (try clear ho0)))
    go_ret
    exact ⟨_, by first | rfl | (simp [errW_none, errW_some] <;> rfl) | (simp [*, errW_none, errW_some] <;> rfl), by (with_reducible repeat (first | apply Kd.R_alloc | apply Kd.R_drewN | apply Kd.R_drew)); exact HO104.out, by repeat (first | (with_reducible first | exact HB.out | apply below_alloc | apply pw_below_drewN | apply below_drew1) | exact HB.out)⟩
  · replace c3 := Bool.eq_false_iff.mpr c3
    subst c3
    have H1 : (some ([] : List ByteArray)) = some r := by rw [if_neg (show ¬ (false = true) by decide)] at H; exact H
    clear H
    have H := H1
    clear H1
    obtain rfl := Option.some.inj H
    go_enter Try.func24, Try.ntmps24
    go_wp2_with (first | ((with_reducible refine gate_callee (f := 37) rfl ?_); refine goesL_ (some 7) rfl rfl Try.func37 (by kernel_rfl) rfl #[.string a0] rfl (by (try simp only [List.map_toArray, List.map_cons, List.map_nil]); first | done | rfl | (simp only [List.length_drop, List.length_take]; rfl)) ?_; (with_reducible refine (impl_labelsOf.calls k a0 t101 false _ A2.out).mono ?_); rintro e w5 ⟨v103, rfl, ho0, hb⟩; refine ⟨_, rfl, ?_⟩; have n0_ := Aside0.mk (Kd.R_lower ho0 (below_size (by repeat (first | (with_reducible first | exact HB.out | apply below_alloc | apply pw_below_drewN | apply below_drew1) | exact HB.out)))); have n1_ := Aside0.mk (below_step (by repeat (first | (with_reducible first | exact HB.out | apply below_alloc | apply pw_below_drewN | apply below_drew1) | exact HB.out)) hb); clear HB; have HO104 := n0_; have HB := n1_; clear n0_ n1_; (try clear hb); (try clear hb2); (try clear hk); (try clear hi); (try clear ho0)))
    go_ret
    exact ⟨_, by first | rfl | (simp [errW_none, errW_some] <;> rfl) | (simp [*, errW_none, errW_some] <;> rfl), by first | exact Kd.R_nil _ _ _ _ _ | exact Kd.N_nil _ _ _ _ _ | exact Kd.V_nil _ _ _ _ _ | exact Kd.Q_nil _ _ _ _ _ | exact Kd.S_nil _ _ _ _ _, by repeat (first | (with_reducible first | exact HB.out | apply below_alloc | apply pw_below_drewN | apply below_drew1) | exact HB.out)⟩

end Go.Proofs.Ytpbmnokmpihnjaa.F
namespace Go.Proofs.Ytpbmnokmpihnjaa.F
open Go Go.Shelf Go.RowKit Go.Proofs.YtpbmnokmpihnjaaW.PrintWords Go.Proofs.YtpbmnokmpihnjaaW.PrintLast Go.Proofs.YtpbmnokmpihnjaaW.PrintMore
attribute [local go_sem] max2_int min2_int max_two min_two max_three min_three max_four min_four   -- for this text's walks alone
set_option linter.unusedVariables false
set_option linter.unusedSimpArgs false

/-! ### laws_FnTail: function 8 -/
def laws_FnTail.j0 : Nat → ByteArray → ByteArray → ByteArray → Int → ByteArray → Bool → Option (Bool)
  | 0, _, _, _, _, _, _ => none
  | k + 1, x3, x4, x5, x7, x8, x42 => if x42 = true then (some false) else (if x7 = 0 then ((impl_ReplaceTail.f k x8 x5 x4).bind fun bt108 => ((impl_IsUnder.f k x8 x5).bind fun t110 => (if t110 = true then ((impl_Labels.f k x8).bind fun t111 => ((impl_Labels.f k x5).bind fun t114 => ((impl_Labels.f k x3).bind fun t117 => ((impl_Labels.f k x4).bind fun t120 => (if (wrap64 ((t111.length : Int) - (t114.length : Int))) = (wrap64 ((t117.length : Int) - (t120.length : Int))) then (if bt108.2 = 0 then ((impl_SameName.f k bt108.1 x3).bind fun t123 => (some t123)) else (some false)) else (some false)))))) else (some false)))) else (some true))
def laws_FnTail.f (k : Nat) (l0 : List Int) : Option (Bool) := if (l0.length : Int) > 1048576 then (some true) else ((spec_DrawReplaceTail.f k l0).bind fun bt101 => ((spec_ReplaceTail.f k bt101.1 bt101.2.1 bt101.2.2).bind fun bt104 => ((impl_ReplaceTail.f k bt101.1 bt101.2.1 bt101.2.2).bind fun bt106 => (if bt104.2 = bt106.2 then (laws_FnTail.j0 k bt101.1 bt101.2.1 bt101.2.2 bt104.2 bt106.1 (bt106.1.toList != bt104.1.toList)) else (laws_FnTail.j0 k bt101.1 bt101.2.1 bt101.2.2 bt104.2 bt106.1 true)))))
theorem laws_FnTail.mono_l : ∀ k, (∀ y0 y1 y2 y3 y4 y5, LeO (laws_FnTail.j0 k y0 y1 y2 y3 y4 y5) (laws_FnTail.j0 (k + 1) y0 y1 y2 y3 y4 y5))
  | 0 => fun _ _ _ _ _ _ r h => by simp [laws_FnTail.j0] at h
  | k + 1 => by
    have ih0 := laws_FnTail.mono_l k
    · intro y0 y1 y2 y3 y4 y5
      unfold laws_FnTail.j0
      repeat' first
      | (with_reducible exact ih0 _ _ _ _ _ _)
      | (with_reducible exact impl_IsUnder.mono _ _ _)
      | (with_reducible exact impl_Labels.mono _ _)
      | (with_reducible exact impl_ReplaceTail.mono _ _ _ _)
      | (with_reducible exact impl_SameName.mono _ _ _)
      | (with_reducible exact spec_DrawReplaceTail.mono _ _)
      | (with_reducible exact spec_ReplaceTail.mono _ _ _ _)
      | (with_reducible exact LeO.refl _)
      | (with_reducible exact LeO.none _)
      | (with_reducible refine LeO.ite ?_ ?_)
      | (with_reducible refine LeO.bind ?_ (fun _ => ?_))
      | exact ih0 _ _ _ _ _ _
      | exact impl_IsUnder.mono _ _ _
      | exact impl_Labels.mono _ _
      | exact impl_ReplaceTail.mono _ _ _ _
      | exact impl_SameName.mono _ _ _
      | exact spec_DrawReplaceTail.mono _ _
      | exact spec_ReplaceTail.mono _ _ _ _
      | exact LeO.none _
      | refine LeO.ite ?_ ?_
      | refine LeO.bind ?_ (fun _ => ?_)
theorem laws_FnTail.mono : ∀ a0 k, LeO (laws_FnTail.f k a0) (laws_FnTail.f (k + 1) a0) := by
  intro a0 k
  have ih0 := laws_FnTail.mono_l k
  unfold laws_FnTail.f
  repeat' first
      | (with_reducible exact ih0 _ _ _ _ _ _)
      | (with_reducible exact impl_IsUnder.mono _ _ _)
      | (with_reducible exact impl_Labels.mono _ _)
      | (with_reducible exact impl_ReplaceTail.mono _ _ _ _)
      | (with_reducible exact impl_SameName.mono _ _ _)
      | (with_reducible exact spec_DrawReplaceTail.mono _ _)
      | (with_reducible exact spec_ReplaceTail.mono _ _ _ _)
      | (with_reducible exact LeO.refl _)
      | (with_reducible exact LeO.none _)
      | (with_reducible refine LeO.ite ?_ ?_)
      | (with_reducible refine LeO.bind ?_ (fun _ => ?_))
      | exact ih0 _ _ _ _ _ _
      | exact impl_IsUnder.mono _ _ _
      | exact impl_Labels.mono _ _
      | exact impl_ReplaceTail.mono _ _ _ _
      | exact impl_SameName.mono _ _ _
      | exact spec_DrawReplaceTail.mono _ _
      | exact spec_ReplaceTail.mono _ _ _ _
      | exact LeO.none _
      | refine LeO.ite ?_ ?_
      | refine LeO.bind ?_ (fun _ => ?_)
set_option maxHeartbeats 8000000 in
set_option maxRecDepth 100000 in
theorem laws_FnTail.calls (k : Nat) (A0 : Option Addr) (c0 : Nat) (l0 : List Int) (r : Bool) (w : World) (hr0 : Kd.C (Kd.int .u8) w A0 l0.length l0) (hc0 : l0.length ≤ c0) (h : laws_FnTail.f k l0 = some r) :
    Calls Try.prog 8 #[.slice A0 l0.length c0] w fun e w' => e = .returned (.bool r) ∧ Below w.heap.size w w' := by
  have HR0 := Aside0.mk hr0
  have HC0 := Aside0.mk hc0
  clear hr0 hc0
  have HB := Aside0.mk (Below.refl w.heap.size w)
  have H : (if (l0.length : Int) > 1048576 then (some true) else ((spec_DrawReplaceTail.f k l0).bind fun bt101 => ((spec_ReplaceTail.f k bt101.1 bt101.2.1 bt101.2.2).bind fun bt104 => ((impl_ReplaceTail.f k bt101.1 bt101.2.1 bt101.2.2).bind fun bt106 => (if bt104.2 = bt106.2 then (laws_FnTail.j0 k bt101.1 bt101.2.1 bt101.2.2 bt104.2 bt106.1 (bt106.1.toList != bt104.1.toList)) else (laws_FnTail.j0 k bt101.1 bt101.2.1 bt101.2.2 bt104.2 bt106.1 true)))))) = some r := h
  clear h
  by_cases c2 : (l0.length : Int) > 1048576
  · rw [if_pos c2] at H
    have c2b0 : decide (1048576 < (l0.length : Int)) = true := decide_eq_true c2
    have c2b1 : decide (1048576 < l0.length) = true := decide_eq_true (by omega)
    clear c2
    obtain rfl := Option.some.inj H
    go_enter Try.func8, Try.ntmps8
    go_wp2
    go_ret
    exact ⟨by first | rfl | (simp [errW_none, errW_some] <;> rfl) | (simp [*, errW_none, errW_some] <;> rfl), by repeat (first | (with_reducible first | exact HB.out | apply below_alloc | apply pw_below_drewN | apply below_drew1) | exact HB.out)⟩
  · rw [if_neg c2] at H
    have c2b0 : decide (1048576 < (l0.length : Int)) = false := decide_eq_false c2
    have c2b1 : decide (1048576 < l0.length) = false := decide_eq_false (by omega)
    clear c2
    replace H := Option.bind_eq_some_iff.mp H
    obtain ⟨⟨t101, t102, t103⟩, A30, H⟩ := H
    replace H : ((spec_ReplaceTail.f k t101 t102 t103).bind fun bt104 => ((impl_ReplaceTail.f k t101 t102 t103).bind fun bt106 => (if bt104.2 = bt106.2 then (laws_FnTail.j0 k t101 t102 t103 bt104.2 bt106.1 (bt106.1.toList != bt104.1.toList)) else (laws_FnTail.j0 k t101 t102 t103 bt104.2 bt106.1 true)))) = some r := H
    have A3 := Aside0.mk A30
    clear A30
    replace H := Option.bind_eq_some_iff.mp H
    obtain ⟨⟨t104, t105⟩, A40, H⟩ := H
    replace H : ((impl_ReplaceTail.f k t101 t102 t103).bind fun bt106 => (if t105 = bt106.2 then (laws_FnTail.j0 k t101 t102 t103 t105 bt106.1 (bt106.1.toList != t104.toList)) else (laws_FnTail.j0 k t101 t102 t103 t105 bt106.1 true))) = some r := H
    have A4 := Aside0.mk A40
    clear A40
    replace H := Option.bind_eq_some_iff.mp H
    obtain ⟨⟨t106, t107⟩, A50, H⟩ := H
    replace H : (if t105 = t107 then (laws_FnTail.j0 k t101 t102 t103 t105 t106 (t106.toList != t104.toList)) else (laws_FnTail.j0 k t101 t102 t103 t105 t106 true)) = some r := H
    have A5 := Aside0.mk A50
    clear A50
    have HC6 := Aside0.mk H
    clear H
    go_enter Try.func8, Try.ntmps8
    go_upto_region 6 with (first | ((with_reducible refine gate_callee (f := 23) rfl ?_); refine goesL_ (some 17) rfl rfl Try.func23 (by kernel_rfl) rfl #[.slice A0 l0.length c0] rfl (by (try simp only [List.map_toArray, List.map_cons, List.map_nil]); first | done | rfl | (simp only [List.length_drop, List.length_take]; rfl)) ?_; (with_reducible refine (spec_DrawReplaceTail.calls k _ _ l0 t101 t102 t103 _ ?side1 ?side2 A3.out).mono ?_); (case side1 => repeat (first | exact HR0.out | (with_reducible refine Kd.C_alloc ?_ _) | (with_reducible refine Kd.C_drewN ?_ _) | (with_reducible refine Kd.C_drew ?_))); (case side2 => exact HC0.out); rintro e w7 ⟨rfl, hb⟩; refine ⟨_, rfl, ?_⟩; have n0_ := Aside0.mk (below_step (by repeat (first | (with_reducible first | exact HB.out | apply below_alloc | apply pw_below_drewN | apply below_drew1) | exact HB.out)) hb); clear HB; have HB := n0_; clear n0_; (try clear hb); (try clear hb2); (try clear hk); (try clear hi)) | ((with_reducible refine gate_callee (f := 14) rfl ?_); refine goesL_ (some 25) rfl rfl Try.func14 (by kernel_rfl) rfl #[.string t101, .string t102, .string t103] rfl (by (try simp only [List.map_toArray, List.map_cons, List.map_nil]); first | done | rfl | (simp only [List.length_drop, List.length_take]; rfl)) ?_; (with_reducible refine (spec_ReplaceTail.calls k t101 t102 t103 t104 t105 _ A4.out).mono ?_); rintro e w8 ⟨rfl, hb⟩; refine ⟨_, rfl, ?_⟩; have n0_ := Aside0.mk (below_step (by repeat (first | (with_reducible first | exact HB.out | apply below_alloc | apply pw_below_drewN | apply below_drew1) | exact HB.out)) hb); clear HB; have HB := n0_; clear n0_; (try clear hb); (try clear hb2); (try clear hk); (try clear hi)) | ((with_reducible refine gate_callee (f := 15) rfl ?_); refine goesL_ (some 32) rfl rfl Try.func15 (by kernel_rfl) rfl #[.string t101, .string t102, .string t103] rfl (by (try simp only [List.map_toArray, List.map_cons, List.map_nil]); first | done | rfl | (simp only [List.length_drop, List.length_take]; rfl)) ?_; (with_reducible refine (impl_ReplaceTail.calls k t101 t102 t103 t106 t107 _ A5.out).mono ?_); rintro e w9 ⟨rfl, hb⟩; refine ⟨_, rfl, ?_⟩; have n0_ := Aside0.mk (below_step (by repeat (first | (with_reducible first | exact HB.out | apply below_alloc | apply pw_below_drewN | apply below_drew1) | exact HB.out)) hb); clear HB; have HB := n0_; clear n0_; (try clear hb); (try clear hb2); (try clear hk); (try clear hi)))
    (try simp only [Act.put, List.setIfInBounds_toArray, List.set_cons_zero, List.set_cons_succ])
    go_cut [42] (fun v42 wc => ∃ (kq : Nat) (x42_5 : Bool), v42 = .bool x42_5 ∧ Aside0 (laws_FnTail.j0 kq t101 t102 t103 t105 t106 x42_5 = some r) ∧ Aside0 (kq ≤ k) ∧ Aside0 (Below w.heap.size w wc))
    case first =>
      have H := HC6.out
      clear HC6
      by_cases c10 : t105 = t107
      · rw [if_pos c10] at H
        have c10b0 : (t105 == t107) = true := beq_iff_eq.mpr c10
        have c10b1 : (t105 != t107) = false := bne_eq_false_iff_eq.mpr c10
        clear c10
        (first | rw [c10b0] | (simp only [i64_w, i32_w]; rw [c10b0]) | skip)
        have H' := Aside0.mk H
        clear H
        go_wp2
        go_meet
        case rel => exact ⟨_, ((t106.toList != t104.toList)), (by first | rfl | (simp; done) | (simp [*]; done)), H', ⟨by first | omega | exact Nat.le_refl _⟩, ⟨by repeat (first | (with_reducible first | exact HB.out | apply below_alloc | apply pw_below_drewN | apply below_drew1) | exact HB.out)⟩⟩
      · rw [if_neg c10] at H
        have c10b0 : (t105 == t107) = false := beq_eq_false_iff_ne.mpr c10
        have c10b1 : (t105 != t107) = true := bne_iff_ne.mpr c10
        (first | rw [c10b0] | (simp only [i64_w, i32_w]; rw [c10b0]) | skip)
        have H' := Aside0.mk H
        clear H
        go_wp2
        go_meet
        case rel => exact ⟨_, (true), (by first | rfl | (simp; done) | (simp [*]; done)), H', ⟨by first | omega | exact Nat.le_refl _⟩, ⟨by repeat (first | (with_reducible first | exact HB.out | apply below_alloc | apply pw_below_drewN | apply below_drew1) | exact HB.out)⟩⟩
    case rest =>
      clear HC6
      try clear c1
      try clear c2
      try clear c2b0
      try clear c2b1
      try clear p2
      try clear c8
      try clear c10
      try clear c10b0
      try clear c10b1
      obtain ⟨kq, x42_5, rfl, HA, HJ5, HB⟩ := hcut
      cases kq with
      | zero => exact absurd HA.out (by simp [laws_FnTail.j0])
      | succ kj5 =>
        have H := HA.out
        clear HA
        simp only [laws_FnTail.j0] at H
        by_cases c11 : x42_5 = true
        · subst c11
          have H1 : (some false) = some r := by rw [if_pos rfl] at H; exact H
          clear H
          have H := H1
          clear H1
          obtain rfl := Option.some.inj H
          go_wp2
          go_ret
          exact ⟨by first | rfl | (simp [errW_none, errW_some] <;> rfl) | (simp [*, errW_none, errW_some] <;> rfl), by repeat (first | (with_reducible first | exact HB.out | apply below_alloc | apply pw_below_drewN | apply below_drew1) | exact HB.out)⟩
        · replace c11 := Bool.eq_false_iff.mpr c11
          subst c11
          have H1 : (if t105 = 0 then ((impl_ReplaceTail.f kj5 t106 t103 t102).bind fun bt108 => ((impl_IsUnder.f kj5 t106 t103).bind fun t110 => (if t110 = true then ((impl_Labels.f kj5 t106).bind fun t111 => ((impl_Labels.f kj5 t103).bind fun t114 => ((impl_Labels.f kj5 t101).bind fun t117 => ((impl_Labels.f kj5 t102).bind fun t120 => (if (wrap64 ((t111.length : Int) - (t114.length : Int))) = (wrap64 ((t117.length : Int) - (t120.length : Int))) then (if bt108.2 = 0 then ((impl_SameName.f kj5 bt108.1 t101).bind fun t123 => (some t123)) else (some false)) else (some false)))))) else (some false)))) else (some true)) = some r := by rw [if_neg (show ¬ (false = true) by decide)] at H; exact H
          clear H
          have H := H1
          clear H1
          by_cases c12 : t105 = 0
          · rw [if_pos c12] at H
            have c12b0 : (t105 == 0) = true := beq_iff_eq.mpr c12
            have c12b1 : (t105 != 0) = false := bne_eq_false_iff_eq.mpr c12
            clear c12
            replace H := Option.bind_eq_some_iff.mp H
            obtain ⟨⟨t108, t109⟩, A130, H⟩ := H
            replace H : ((impl_IsUnder.f kj5 t106 t103).bind fun t110 => (if t110 = true then ((impl_Labels.f kj5 t106).bind fun t111 => ((impl_Labels.f kj5 t103).bind fun t114 => ((impl_Labels.f kj5 t101).bind fun t117 => ((impl_Labels.f kj5 t102).bind fun t120 => (if (wrap64 ((t111.length : Int) - (t114.length : Int))) = (wrap64 ((t117.length : Int) - (t120.length : Int))) then (if t109 = 0 then ((impl_SameName.f kj5 t108 t101).bind fun t123 => (some t123)) else (some false)) else (some false)))))) else (some false))) = some r := H
            have A13 := Aside0.mk A130
            clear A130
            replace H := Option.bind_eq_some_iff.mp H
            obtain ⟨t110, A140, H⟩ := H
            replace H : (if t110 = true then ((impl_Labels.f kj5 t106).bind fun t111 => ((impl_Labels.f kj5 t103).bind fun t114 => ((impl_Labels.f kj5 t101).bind fun t117 => ((impl_Labels.f kj5 t102).bind fun t120 => (if (wrap64 ((t111.length : Int) - (t114.length : Int))) = (wrap64 ((t117.length : Int) - (t120.length : Int))) then (if t109 = 0 then ((impl_SameName.f kj5 t108 t101).bind fun t123 => (some t123)) else (some false)) else (some false)))))) else (some false)) = some r := H
            have A14 := Aside0.mk A140
            clear A140
            by_cases c15 : t110 = true
            · subst c15
              have H1 : ((impl_Labels.f kj5 t106).bind fun t111 => ((impl_Labels.f kj5 t103).bind fun t114 => ((impl_Labels.f kj5 t101).bind fun t117 => ((impl_Labels.f kj5 t102).bind fun t120 => (if (wrap64 ((t111.length : Int) - (t114.length : Int))) = (wrap64 ((t117.length : Int) - (t120.length : Int))) then (if t109 = 0 then ((impl_SameName.f kj5 t108 t101).bind fun t123 => (some t123)) else (some false)) else (some false)))))) = some r := by rw [if_pos rfl] at H; exact H
              clear H
              have H := H1
              clear H1
              replace H := Option.bind_eq_some_iff.mp H
              obtain ⟨t111, A160, H⟩ := H
              replace H : ((impl_Labels.f kj5 t103).bind fun t114 => ((impl_Labels.f kj5 t101).bind fun t117 => ((impl_Labels.f kj5 t102).bind fun t120 => (if (wrap64 ((t111.length : Int) - (t114.length : Int))) = (wrap64 ((t117.length : Int) - (t120.length : Int))) then (if t109 = 0 then ((impl_SameName.f kj5 t108 t101).bind fun t123 => (some t123)) else (some false)) else (some false))))) = some r := H
              have A16 := Aside0.mk A160
              clear A160
              replace H := Option.bind_eq_some_iff.mp H
              obtain ⟨t114, A170, H⟩ := H
              replace H : ((impl_Labels.f kj5 t101).bind fun t117 => ((impl_Labels.f kj5 t102).bind fun t120 => (if (wrap64 ((t111.length : Int) - (t114.length : Int))) = (wrap64 ((t117.length : Int) - (t120.length : Int))) then (if t109 = 0 then ((impl_SameName.f kj5 t108 t101).bind fun t123 => (some t123)) else (some false)) else (some false)))) = some r := H
              have A17 := Aside0.mk A170
              clear A170
              replace H := Option.bind_eq_some_iff.mp H
              obtain ⟨t117, A180, H⟩ := H
              replace H : ((impl_Labels.f kj5 t102).bind fun t120 => (if (wrap64 ((t111.length : Int) - (t114.length : Int))) = (wrap64 ((t117.length : Int) - (t120.length : Int))) then (if t109 = 0 then ((impl_SameName.f kj5 t108 t101).bind fun t123 => (some t123)) else (some false)) else (some false))) = some r := H
              have A18 := Aside0.mk A180
              clear A180
              replace H := Option.bind_eq_some_iff.mp H
              obtain ⟨t120, A190, H⟩ := H
              replace H : (if (wrap64 ((t111.length : Int) - (t114.length : Int))) = (wrap64 ((t117.length : Int) - (t120.length : Int))) then (if t109 = 0 then ((impl_SameName.f kj5 t108 t101).bind fun t123 => (some t123)) else (some false)) else (some false)) = some r := H
              have A19 := Aside0.mk A190
              clear A190
              by_cases c20 : (wrap64 ((t111.length : Int) - (t114.length : Int))) = (wrap64 ((t117.length : Int) - (t120.length : Int)))
              · rw [if_pos c20] at H
                have c20b0 : ((wrap64 ((t111.length : Int) - (t114.length : Int))) == (wrap64 ((t117.length : Int) - (t120.length : Int)))) = true := beq_iff_eq.mpr c20
                have c20b1 : ((wrap64 ((t111.length : Int) - (t114.length : Int))) != (wrap64 ((t117.length : Int) - (t120.length : Int)))) = false := bne_eq_false_iff_eq.mpr c20
                clear c20
                by_cases c21 : t109 = 0
                · rw [if_pos c21] at H
                  have c21b0 : (t109 == 0) = true := beq_iff_eq.mpr c21
                  have c21b1 : (t109 != 0) = false := bne_eq_false_iff_eq.mpr c21
                  clear c21
                  replace H := Option.bind_eq_some_iff.mp H
                  obtain ⟨t123, A220, H⟩ := H
                  replace H : (some t123) = some r := H
                  have A22 := Aside0.mk A220
                  clear A220
                  obtain rfl := Option.some.inj H
                  go_wp2_with (first | ((with_reducible refine gate_callee (f := 15) rfl ?_); refine goesL_ (some 49) rfl rfl Try.func15 (by kernel_rfl) rfl #[.string t106, .string t103, .string t102] rfl (by (try simp only [List.map_toArray, List.map_cons, List.map_nil]); first | done | rfl | (simp only [List.length_drop, List.length_take]; rfl)) ?_; (with_reducible refine (impl_ReplaceTail.calls kj5 t106 t103 t102 t108 t109 _ A13.out).mono ?_); rintro e w23 ⟨rfl, hb⟩; refine ⟨_, rfl, ?_⟩; have n0_ := Aside0.mk (below_step (by repeat (first | (with_reducible first | exact HB.out | apply below_alloc | apply pw_below_drewN | apply below_drew1) | exact HB.out)) hb); clear HB; have HB := n0_; clear n0_; (try clear hb); (try clear hb2); (try clear hk); (try clear hi)) | ((with_reducible refine gate_callee (f := 13) rfl ?_); refine goesL_ (some 54) rfl rfl Try.func13 (by kernel_rfl) rfl #[.string t106, .string t103] rfl (by (try simp only [List.map_toArray, List.map_cons, List.map_nil]); first | done | rfl | (simp only [List.length_drop, List.length_take]; rfl)) ?_; (with_reducible refine (impl_IsUnder.calls kj5 t106 t103 true _ A14.out).mono ?_); rintro e w24 ⟨rfl, hb⟩; refine ⟨_, rfl, ?_⟩; have n0_ := Aside0.mk (below_step (by repeat (first | (with_reducible first | exact HB.out | apply below_alloc | apply pw_below_drewN | apply below_drew1) | exact HB.out)) hb); clear HB; have HB := n0_; clear n0_; (try clear hb); (try clear hb2); (try clear hk); (try clear hi)) | (go_at_call 24; (with_reducible refine (impl_Labels.calls kj5 t106 t111 _ A16.out).mono ?_); rintro e w25 ⟨v112, rfl, ho0, hb⟩; have n0_ := Aside0.mk (Kd.R_lower ho0 (below_size (by repeat (first | (with_reducible first | exact HB.out | apply below_alloc | apply pw_below_drewN | apply below_drew1) | exact HB.out)))); have n1_ := Aside0.mk (below_step (by repeat (first | (with_reducible first | exact HB.out | apply below_alloc | apply pw_below_drewN | apply below_drew1) | exact HB.out)) hb); clear HB; have HO113 := n0_; have HB := n1_; clear n0_ n1_; (try clear hb); (try clear hb2); (try clear hk); (try clear hi); (try clear ho0); obtain ⟨Ao26, co26, eo26⟩ := Kd.R_slice HO113.out; subst eo26) | (go_at_call 24; (with_reducible refine (impl_Labels.calls kj5 t103 t114 _ A17.out).mono ?_); rintro e w27 ⟨v115, rfl, ho0, hb⟩; have n0_ := Aside0.mk (Kd.R_elder' (by (with_reducible repeat (first | apply Kd.R_alloc | apply Kd.R_drewN | apply Kd.R_drew)); exact HO113.out) (Kd.R_base ho0) hb); have n1_ := Aside0.mk (Kd.R_lower (Kd.R_new' ho0 (Kd.R_lt (by (with_reducible repeat (first | apply Kd.R_alloc | apply Kd.R_drewN | apply Kd.R_drew)); exact HO113.out))) (below_size (by repeat (first | (with_reducible first | exact HB.out | apply below_alloc | apply pw_below_drewN | apply below_drew1) | exact HB.out)))); have n2_ := Aside0.mk (below_step (by repeat (first | (with_reducible first | exact HB.out | apply below_alloc | apply pw_below_drewN | apply below_drew1) | exact HB.out)) hb); clear HO113; clear HB; have HO113 := n0_; have HO116 := n1_; have HB := n2_; clear n0_ n1_ n2_; (try clear hb); (try clear hb2); (try clear hk); (try clear hi); (try clear ho0); obtain ⟨Ao28, co28, eo28⟩ := Kd.R_slice HO116.out; subst eo28) | (go_at_call 24; (with_reducible refine (impl_Labels.calls kj5 t101 t117 _ A18.out).mono ?_); rintro e w29 ⟨v118, rfl, ho0, hb⟩; have n0_ := Aside0.mk (Kd.R_elder' (by (with_reducible repeat (first | apply Kd.R_alloc | apply Kd.R_drewN | apply Kd.R_drew)); exact HO113.out) (Kd.R_base ho0) hb); have n1_ := Aside0.mk (Kd.R_elder' (by (with_reducible repeat (first | apply Kd.R_alloc | apply Kd.R_drewN | apply Kd.R_drew)); exact HO116.out) (Kd.R_base ho0) hb); have n2_ := Aside0.mk (Kd.R_lower (Kd.R_new' (Kd.R_new' ho0 (Kd.R_lt (by (with_reducible repeat (first | apply Kd.R_alloc | apply Kd.R_drewN | apply Kd.R_drew)); exact HO113.out))) (Kd.R_lt (by (with_reducible repeat (first | apply Kd.R_alloc | apply Kd.R_drewN | apply Kd.R_drew)); exact HO116.out))) (below_size (by repeat (first | (with_reducible first | exact HB.out | apply below_alloc | apply pw_below_drewN | apply below_drew1) | exact HB.out)))); have n3_ := Aside0.mk (below_step (by repeat (first | (with_reducible first | exact HB.out | apply below_alloc | apply pw_below_drewN | apply below_drew1) | exact HB.out)) hb); clear HO113; clear HO116; clear HB; have HO113 := n0_; have HO116 := n1_; have HO119 := n2_; have HB := n3_; clear n0_ n1_ n2_ n3_; (try clear hb); (try clear hb2); (try clear hk); (try clear hi); (try clear ho0); obtain ⟨Ao30, co30, eo30⟩ := Kd.R_slice HO119.out; subst eo30) | (go_at_call 24; (with_reducible refine (impl_Labels.calls kj5 t102 t120 _ A19.out).mono ?_); rintro e w31 ⟨v121, rfl, ho0, hb⟩; have n0_ := Aside0.mk (Kd.R_elder' (by (with_reducible repeat (first | apply Kd.R_alloc | apply Kd.R_drewN | apply Kd.R_drew)); exact HO113.out) (Kd.R_base ho0) hb); have n1_ := Aside0.mk (Kd.R_elder' (by (with_reducible repeat (first | apply Kd.R_alloc | apply Kd.R_drewN | apply Kd.R_drew)); exact HO116.out) (Kd.R_base ho0) hb); have n2_ := Aside0.mk (Kd.R_elder' (by (with_reducible repeat (first | apply Kd.R_alloc | apply Kd.R_drewN | apply Kd.R_drew)); exact HO119.out) (Kd.R_base ho0) hb); have n3_ := Aside0.mk (Kd.R_lower (Kd.R_new' (Kd.R_new' (Kd.R_new' ho0 (Kd.R_lt (by (with_reducible repeat (first | apply Kd.R_alloc | apply Kd.R_drewN | apply Kd.R_drew)); exact HO113.out))) (Kd.R_lt (by (with_reducible repeat (first | apply Kd.R_alloc | apply Kd.R_drewN | apply Kd.R_drew)); exact HO116.out))) (Kd.R_lt (by (with_reducible repeat (first | apply Kd.R_alloc | apply Kd.R_drewN | apply Kd.R_drew)); exact HO119.out))) (below_size (by repeat (first | (with_reducible first | exact HB.out | apply below_alloc | apply pw_below_drewN | apply below_drew1) | exact HB.out)))); have n4_ := Aside0.mk (below_step (by repeat (first | (with_reducible first | exact HB.out | apply below_alloc | apply pw_below_drewN | apply below_drew1) | exact HB.out)) hb); clear HO113; clear HO116; clear HO119; clear HB; have HO113 := n0_; have HO116 := n1_; have HO119 := n2_; have HO122 := n3_; have HB := n4_; clear n0_ n1_ n2_ n3_ n4_; (try clear hb); (try clear hb2); (try clear hk); (try clear hi); (try clear ho0); obtain ⟨Ao32, co32, eo32⟩ := Kd.R_slice HO122.out; subst eo32) | (go_at_call 21; (with_reducible refine (impl_SameName.calls kj5 t108 t101 t123 _ A22.out).mono ?_); rintro e w33 ⟨rfl, hb⟩; have n0_ := Aside0.mk (Kd.R_below (by (with_reducible repeat (first | apply Kd.R_alloc | apply Kd.R_drewN | apply Kd.R_drew)); exact HO113.out) hb); have n1_ := Aside0.mk (Kd.R_below (by (with_reducible repeat (first | apply Kd.R_alloc | apply Kd.R_drewN | apply Kd.R_drew)); exact HO116.out) hb); have n2_ := Aside0.mk (Kd.R_below (by (with_reducible repeat (first | apply Kd.R_alloc | apply Kd.R_drewN | apply Kd.R_drew)); exact HO119.out) hb); have n3_ := Aside0.mk (Kd.R_below (by (with_reducible repeat (first | apply Kd.R_alloc | apply Kd.R_drewN | apply Kd.R_drew)); exact HO122.out) hb); have n4_ := Aside0.mk (below_step (by repeat (first | (with_reducible first | exact HB.out | apply below_alloc | apply pw_below_drewN | apply below_drew1) | exact HB.out)) hb); clear HO113; clear HO116; clear HO119; clear HO122; clear HB; have HO113 := n0_; have HO116 := n1_; have HO119 := n2_; have HO122 := n3_; have HB := n4_; clear n0_ n1_ n2_ n3_ n4_; (try clear hb); (try clear hb2); (try clear hk); (try clear hi)))
                  go_ret
                  exact ⟨by first | rfl | (simp [errW_none, errW_some] <;> rfl) | (simp [*, errW_none, errW_some] <;> rfl), by repeat (first | (with_reducible first | exact HB.out | apply below_alloc | apply pw_below_drewN | apply below_drew1) | exact HB.out)⟩
                · rw [if_neg c21] at H
                  have c21b0 : (t109 == 0) = false := beq_eq_false_iff_ne.mpr c21
                  have c21b1 : (t109 != 0) = true := bne_iff_ne.mpr c21
                  obtain rfl := Option.some.inj H
                  go_wp2_with (first | ((with_reducible refine gate_callee (f := 15) rfl ?_); refine goesL_ (some 49) rfl rfl Try.func15 (by kernel_rfl) rfl #[.string t106, .string t103, .string t102] rfl (by (try simp only [List.map_toArray, List.map_cons, List.map_nil]); first | done | rfl | (simp only [List.length_drop, List.length_take]; rfl)) ?_; (with_reducible refine (impl_ReplaceTail.calls kj5 t106 t103 t102 t108 t109 _ A13.out).mono ?_); rintro e w34 ⟨rfl, hb⟩; refine ⟨_, rfl, ?_⟩; have n0_ := Aside0.mk (below_step (by repeat (first | (with_reducible first | exact HB.out | apply below_alloc | apply pw_below_drewN | apply below_drew1) | exact HB.out)) hb); clear HB; have HB := n0_; clear n0_; (try clear hb); (try clear hb2); (try clear hk); (try clear hi)) | ((with_reducible refine gate_callee (f := 13) rfl ?_); refine goesL_ (some 54) rfl rfl Try.func13 (by kernel_rfl) rfl #[.string t106, .string t103] rfl (by (try simp only [List.map_toArray, List.map_cons, List.map_nil]); first | done | rfl | (simp only [List.length_drop, List.length_take]; rfl)) ?_; (with_reducible refine (impl_IsUnder.calls kj5 t106 t103 true _ A14.out).mono ?_); rintro e w35 ⟨rfl, hb⟩; refine ⟨_, rfl, ?_⟩; have n0_ := Aside0.mk (below_step (by repeat (first | (with_reducible first | exact HB.out | apply below_alloc | apply pw_below_drewN | apply below_drew1) | exact HB.out)) hb); clear HB; have HB := n0_; clear n0_; (try clear hb); (try clear hb2); (try clear hk); (try clear hi)) | (go_at_call 24; (with_reducible refine (impl_Labels.calls kj5 t106 t111 _ A16.out).mono ?_); rintro e w36 ⟨v112, rfl, ho0, hb⟩; have n0_ := Aside0.mk (Kd.R_lower ho0 (below_size (by repeat (first | (with_reducible first | exact HB.out | apply below_alloc | apply pw_below_drewN | apply below_drew1) | exact HB.out)))); have n1_ := Aside0.mk (below_step (by repeat (first | (with_reducible first | exact HB.out | apply below_alloc | apply pw_below_drewN | apply below_drew1) | exact HB.out)) hb); clear HB; have HO113 := n0_; have HB := n1_; clear n0_ n1_; (try clear hb); (try clear hb2); (try clear hk); (try clear hi); (try clear ho0); obtain ⟨Ao37, co37, eo37⟩ := Kd.R_slice HO113.out; subst eo37) | (go_at_call 24; (with_reducible refine (impl_Labels.calls kj5 t103 t114 _ A17.out).mono ?_); rintro e w38 ⟨v115, rfl, ho0, hb⟩; have n0_ := Aside0.mk (Kd.R_elder' (by (with_reducible repeat (first | apply Kd.R_alloc | apply Kd.R_drewN | apply Kd.R_drew)); exact HO113.out) (Kd.R_base ho0) hb); have n1_ := Aside0.mk (Kd.R_lower (Kd.R_new' ho0 (Kd.R_lt (by (with_reducible repeat (first | apply Kd.R_alloc | apply Kd.R_drewN | apply Kd.R_drew)); exact HO113.out))) (below_size (by repeat (first | (with_reducible first | exact HB.out | apply below_alloc | apply pw_below_drewN | apply below_drew1) | exact HB.out)))); have n2_ := Aside0.mk (below_step (by repeat (first | (with_reducible first | exact HB.out | apply below_alloc | apply pw_below_drewN | apply below_drew1) | exact HB.out)) hb); clear HO113; clear HB; have HO113 := n0_; have HO116 := n1_; have HB := n2_; clear n0_ n1_ n2_; (try clear hb); (try clear hb2); (try clear hk); (try clear hi); (try clear ho0); obtain ⟨Ao39, co39, eo39⟩ := Kd.R_slice HO116.out; subst eo39) | (go_at_call 24; (with_reducible refine (impl_Labels.calls kj5 t101 t117 _ A18.out).mono ?_); rintro e w40 ⟨v118, rfl, ho0, hb⟩; have n0_ := Aside0.mk (Kd.R_elder' (by (with_reducible repeat (first | apply Kd.R_alloc | apply Kd.R_drewN | apply Kd.R_drew)); exact HO113.out) (Kd.R_base ho0) hb); have n1_ := Aside0.mk (Kd.R_elder' (by (with_reducible repeat (first | apply Kd.R_alloc | apply Kd.R_drewN | apply Kd.R_drew)); exact HO116.out) (Kd.R_base ho0) hb); have n2_ := Aside0.mk (Kd.R_lower (Kd.R_new' (Kd.R_new' ho0 (Kd.R_lt (by (with_reducible repeat (first | apply Kd.R_alloc | apply Kd.R_drewN | apply Kd.R_drew)); exact HO113.out))) (Kd.R_lt (by (with_reducible repeat (first | apply Kd.R_alloc | apply Kd.R_drewN | apply Kd.R_drew)); exact HO116.out))) (below_size (by repeat (first | (with_reducible first | exact HB.out | apply below_alloc | apply pw_below_drewN | apply below_drew1) | exact HB.out)))); have n3_ := Aside0.mk (below_step (by repeat (first | (with_reducible first | exact HB.out | apply below_alloc | apply pw_below_drewN | apply below_drew1) | exact HB.out)) hb); clear HO113; clear HO116; clear HB; have HO113 := n0_; have HO116 := n1_; have HO119 := n2_; have HB := n3_; clear n0_ n1_ n2_ n3_; (try clear hb); (try clear hb2); (try clear hk); (try clear hi); (try clear ho0); obtain ⟨Ao41, co41, eo41⟩ := Kd.R_slice HO119.out; subst eo41) | (go_at_call 24; (with_reducible refine (impl_Labels.calls kj5 t102 t120 _ A19.out).mono ?_); rintro e w42 ⟨v121, rfl, ho0, hb⟩; have n0_ := Aside0.mk (Kd.R_elder' (by (with_reducible repeat (first | apply Kd.R_alloc | apply Kd.R_drewN | apply Kd.R_drew)); exact HO113.out) (Kd.R_base ho0) hb); have n1_ := Aside0.mk (Kd.R_elder' (by (with_reducible repeat (first | apply Kd.R_alloc | apply Kd.R_drewN | apply Kd.R_drew)); exact HO116.out) (Kd.R_base ho0) hb); have n2_ := Aside0.mk (Kd.R_elder' (by (with_reducible repeat (first | apply Kd.R_alloc | apply Kd.R_drewN | apply Kd.R_drew)); exact HO119.out) (Kd.R_base ho0) hb); have n3_ := Aside0.mk (Kd.R_lower (Kd.R_new' (Kd.R_new' (Kd.R_new' ho0 (Kd.R_lt (by (with_reducible repeat (first | apply Kd.R_alloc | apply Kd.R_drewN | apply Kd.R_drew)); exact HO113.out))) (Kd.R_lt (by (with_reducible repeat (first | apply Kd.R_alloc | apply Kd.R_drewN | apply Kd.R_drew)); exact HO116.out))) (Kd.R_lt (by (with_reducible repeat (first | apply Kd.R_alloc | apply Kd.R_drewN | apply Kd.R_drew)); exact HO119.out))) (below_size (by repeat (first | (with_reducible first | exact HB.out | apply below_alloc | apply pw_below_drewN | apply below_drew1) | exact HB.out)))); have n4_ := Aside0.mk (below_step (by repeat (first | (with_reducible first | exact HB.out | apply below_alloc | apply pw_below_drewN | apply below_drew1) | exact HB.out)) hb); clear HO113; clear HO116; clear HO119; clear HB; have HO113 := n0_; have HO116 := n1_; have HO119 := n2_; have HO122 := n3_; have HB := n4_; clear n0_ n1_ n2_ n3_ n4_; (try clear hb); (try clear hb2); (try clear hk); (try clear hi); (try clear ho0); obtain ⟨Ao43, co43, eo43⟩ := Kd.R_slice HO122.out; subst eo43))
                  go_ret
                  exact ⟨by first | rfl | (simp [errW_none, errW_some] <;> rfl) | (simp [*, errW_none, errW_some] <;> rfl), by repeat (first | (with_reducible first | exact HB.out | apply below_alloc | apply pw_below_drewN | apply below_drew1) | exact HB.out)⟩
              · rw [if_neg c20] at H
                have c20b0 : ((wrap64 ((t111.length : Int) - (t114.length : Int))) == (wrap64 ((t117.length : Int) - (t120.length : Int)))) = false := beq_eq_false_iff_ne.mpr c20
                have c20b1 : ((wrap64 ((t111.length : Int) - (t114.length : Int))) != (wrap64 ((t117.length : Int) - (t120.length : Int)))) = true := bne_iff_ne.mpr c20
                obtain rfl := Option.some.inj H
                go_wp2_with (first | ((with_reducible refine gate_callee (f := 15) rfl ?_); refine goesL_ (some 49) rfl rfl Try.func15 (by kernel_rfl) rfl #[.string t106, .string t103, .string t102] rfl (by (try simp only [List.map_toArray, List.map_cons, List.map_nil]); first | done | rfl | (simp only [List.length_drop, List.length_take]; rfl)) ?_; (with_reducible refine (impl_ReplaceTail.calls kj5 t106 t103 t102 t108 t109 _ A13.out).mono ?_); rintro e w44 ⟨rfl, hb⟩; refine ⟨_, rfl, ?_⟩; have n0_ := Aside0.mk (below_step (by repeat (first | (with_reducible first | exact HB.out | apply below_alloc | apply pw_below_drewN | apply below_drew1) | exact HB.out)) hb); clear HB; have HB := n0_; clear n0_; (try clear hb); (try clear hb2); (try clear hk); (try clear hi)) | ((with_reducible refine gate_callee (f := 13) rfl ?_); refine goesL_ (some 54) rfl rfl Try.func13 (by kernel_rfl) rfl #[.string t106, .string t103] rfl (by (try simp only [List.map_toArray, List.map_cons, List.map_nil]); first | done | rfl | (simp only [List.length_drop, List.length_take]; rfl)) ?_; (with_reducible refine (impl_IsUnder.calls kj5 t106 t103 true _ A14.out).mono ?_); rintro e w45 ⟨rfl, hb⟩; refine ⟨_, rfl, ?_⟩; have n0_ := Aside0.mk (below_step (by repeat (first | (with_reducible first | exact HB.out | apply below_alloc | apply pw_below_drewN | apply below_drew1) | exact HB.out)) hb); clear HB; have HB := n0_; clear n0_; (try clear hb); (try clear hb2); (try clear hk); (try clear hi)) | (go_at_call 24; (with_reducible refine (impl_Labels.calls kj5 t106 t111 _ A16.out).mono ?_); rintro e w46 ⟨v112, rfl, ho0, hb⟩; have n0_ := Aside0.mk (Kd.R_lower ho0 (below_size (by repeat (first | (with_reducible first | exact HB.out | apply below_alloc | apply pw_below_drewN | apply below_drew1) | exact HB.out)))); have n1_ := Aside0.mk (below_step (by repeat (first | (with_reducible first | exact HB.out | apply below_alloc | apply pw_below_drewN | apply below_drew1) | exact HB.out)) hb); clear HB; have HO113 := n0_; have HB := n1_; clear n0_ n1_; (try clear hb); (try clear hb2); (try clear hk); (try clear hi); (try clear ho0); obtain ⟨Ao47, co47, eo47⟩ := Kd.R_slice HO113.out; subst eo47) | (go_at_call 24; (with_reducible refine (impl_Labels.calls kj5 t103 t114 _ A17.out).mono ?_); rintro e w48 ⟨v115, rfl, ho0, hb⟩; have n0_ := Aside0.mk (Kd.R_elder' (by (with_reducible repeat (first | apply Kd.R_alloc | apply Kd.R_drewN | apply Kd.R_drew)); exact HO113.out) (Kd.R_base ho0) hb); have n1_ := Aside0.mk (Kd.R_lower (Kd.R_new' ho0 (Kd.R_lt (by (with_reducible repeat (first | apply Kd.R_alloc | apply Kd.R_drewN | apply Kd.R_drew)); exact HO113.out))) (below_size (by repeat (first | (with_reducible first | exact HB.out | apply below_alloc | apply pw_below_drewN | apply below_drew1) | exact HB.out)))); have n2_ := Aside0.mk (below_step (by repeat (first | (with_reducible first | exact HB.out | apply below_alloc | apply pw_below_drewN | apply below_drew1) | exact HB.out)) hb); clear HO113; clear HB; have HO113 := n0_; have HO116 := n1_; have HB := n2_; clear n0_ n1_ n2_; (try clear hb); (try clear hb2); (try clear hk); (try clear hi); (try clear ho0); obtain ⟨Ao49, co49, eo49⟩ := Kd.R_slice HO116.out; subst eo49) | (go_at_call 24; (with_reducible refine (impl_Labels.calls kj5 t101 t117 _ A18.out).mono ?_); rintro e w50 ⟨v118, rfl, ho0, hb⟩; have n0_ := Aside0.mk (Kd.R_elder' (by (with_reducible repeat (first | apply Kd.R_alloc | apply Kd.R_drewN | apply Kd.R_drew)); exact HO113.out) (Kd.R_base ho0) hb); have n1_ := Aside0.mk (Kd.R_elder' (by (with_reducible repeat (first | apply Kd.R_alloc | apply Kd.R_drewN | apply Kd.R_drew)); exact HO116.out) (Kd.R_base ho0) hb); have n2_ := Aside0.mk (Kd.R_lower (Kd.R_new' (Kd.R_new' ho0 (Kd.R_lt (by (with_reducible repeat (first | apply Kd.R_alloc | apply Kd.R_drewN | apply Kd.R_drew)); exact HO113.out))) (Kd.R_lt (by (with_reducible repeat (first | apply Kd.R_alloc | apply Kd.R_drewN | apply Kd.R_drew)); exact HO116.out))) (below_size (by repeat (first | (with_reducible first | exact HB.out | apply below_alloc | apply pw_below_drewN | apply below_drew1) | exact HB.out)))); have n3_ := Aside0.mk (below_step (by repeat (first | (with_reducible first | exact HB.out | apply below_alloc | apply pw_below_drewN | apply below_drew1) | exact HB.out)) hb); clear HO113; clear HO116; clear HB; have HO113 := n0_; have HO116 := n1_; have HO119 := n2_; have HB := n3_; clear n0_ n1_ n2_ n3_; (try clear hb); (try clear hb2); (try clear hk); (try clear hi); (try clear ho0); obtain ⟨Ao51, co51, eo51⟩ := Kd.R_slice HO119.out; subst eo51) | (go_at_call 24; (with_reducible refine (impl_Labels.calls kj5 t102 t120 _ A19.out).mono ?_); rintro e w52 ⟨v121, rfl, ho0, hb⟩; have n0_ := Aside0.mk (Kd.R_elder' (by (with_reducible repeat (first | apply Kd.R_alloc | apply Kd.R_drewN | apply Kd.R_drew)); exact HO113.out) (Kd.R_base ho0) hb); have n1_ := Aside0.mk (Kd.R_elder' (by (with_reducible repeat (first | apply Kd.R_alloc | apply Kd.R_drewN | apply Kd.R_drew)); exact HO116.out) (Kd.R_base ho0) hb); have n2_ := Aside0.mk (Kd.R_elder' (by (with_reducible repeat (first | apply Kd.R_alloc | apply Kd.R_drewN | apply Kd.R_drew)); exact HO119.out) (Kd.R_base ho0) hb); have n3_ := Aside0.mk (Kd.R_lower (Kd.R_new' (Kd.R_new' (Kd.R_new' ho0 (Kd.R_lt (by (with_reducible repeat (first | apply Kd.R_alloc | apply Kd.R_drewN | apply Kd.R_drew)); exact HO113.out))) (Kd.R_lt (by (with_reducible repeat (first | apply Kd.R_alloc | apply Kd.R_drewN | apply Kd.R_drew)); exact HO116.out))) (Kd.R_lt (by (with_reducible repeat (first | apply Kd.R_alloc | apply Kd.R_drewN | apply Kd.R_drew)); exact HO119.out))) (below_size (by repeat (first | (with_reducible first | exact HB.out | apply below_alloc | apply pw_below_drewN | apply below_drew1) | exact HB.out)))); have n4_ := Aside0.mk (below_step (by repeat (first | (with_reducible first | exact HB.out | apply below_alloc | apply pw_below_drewN | apply below_drew1) | exact HB.out)) hb); clear HO113; clear HO116; clear HO119; clear HB; have HO113 := n0_; have HO116 := n1_; have HO119 := n2_; have HO122 := n3_; have HB := n4_; clear n0_ n1_ n2_ n3_ n4_; (try clear hb); (try clear hb2); (try clear hk); (try clear hi); (try clear ho0); obtain ⟨Ao53, co53, eo53⟩ := Kd.R_slice HO122.out; subst eo53))
                go_ret
                exact ⟨by first | rfl | (simp [errW_none, errW_some] <;> rfl) | (simp [*, errW_none, errW_some] <;> rfl), by repeat (first | (with_reducible first | exact HB.out | apply below_alloc | apply pw_below_drewN | apply below_drew1) | exact HB.out)⟩
            · replace c15 := Bool.eq_false_iff.mpr c15
              subst c15
              have H1 : (some false) = some r := by rw [if_neg (show ¬ (false = true) by decide)] at H; exact H
              clear H
              have H := H1
              clear H1
              obtain rfl := Option.some.inj H
              go_wp2_with (first | ((with_reducible refine gate_callee (f := 15) rfl ?_); refine goesL_ (some 49) rfl rfl Try.func15 (by kernel_rfl) rfl #[.string t106, .string t103, .string t102] rfl (by (try simp only [List.map_toArray, List.map_cons, List.map_nil]); first | done | rfl | (simp only [List.length_drop, List.length_take]; rfl)) ?_; (with_reducible refine (impl_ReplaceTail.calls kj5 t106 t103 t102 t108 t109 _ A13.out).mono ?_); rintro e w54 ⟨rfl, hb⟩; refine ⟨_, rfl, ?_⟩; have n0_ := Aside0.mk (below_step (by repeat (first | (with_reducible first | exact HB.out | apply below_alloc | apply pw_below_drewN | apply below_drew1) | exact HB.out)) hb); clear HB; have HB := n0_; clear n0_; (try clear hb); (try clear hb2); (try clear hk); (try clear hi)) | ((with_reducible refine gate_callee (f := 13) rfl ?_); refine goesL_ (some 54) rfl rfl Try.func13 (by kernel_rfl) rfl #[.string t106, .string t103] rfl (by (try simp only [List.map_toArray, List.map_cons, List.map_nil]); first | done | rfl | (simp only [List.length_drop, List.length_take]; rfl)) ?_; (with_reducible refine (impl_IsUnder.calls kj5 t106 t103 false _ A14.out).mono ?_); rintro e w55 ⟨rfl, hb⟩; refine ⟨_, rfl, ?_⟩; have n0_ := Aside0.mk (below_step (by repeat (first | (with_reducible first | exact HB.out | apply below_alloc | apply pw_below_drewN | apply below_drew1) | exact HB.out)) hb); clear HB; have HB := n0_; clear n0_; (try clear hb); (try clear hb2); (try clear hk); (try clear hi)))
              go_ret
              exact ⟨by first | rfl | (simp [errW_none, errW_some] <;> rfl) | (simp [*, errW_none, errW_some] <;> rfl), by repeat (first | (with_reducible first | exact HB.out | apply below_alloc | apply pw_below_drewN | apply below_drew1) | exact HB.out)⟩
          · rw [if_neg c12] at H
            have c12b0 : (t105 == 0) = false := beq_eq_false_iff_ne.mpr c12
            have c12b1 : (t105 != 0) = true := bne_iff_ne.mpr c12
            obtain rfl := Option.some.inj H
            go_wp2
            go_ret
            exact ⟨by first | rfl | (simp [errW_none, errW_some] <;> rfl) | (simp [*, errW_none, errW_some] <;> rfl), by repeat (first | (with_reducible first | exact HB.out | apply below_alloc | apply pw_below_drewN | apply below_drew1) | exact HB.out)⟩

/-- THE ONE PURE STATEMENT of laws_FnTail: yours. -/
def laws_FnTail.Pure : Prop := ∀ (l0 : List Int), l0.length ≤ maxLen → l0.length * 1 ≤ 140737488351232 → (∀ x ∈ l0, (Lit.int .u8 x).wf = true) → ∃ k, laws_FnTail.f k l0 = some true
theorem laws_FnTail.walk (P : laws_FnTail.Pure) (a0 : Option Addr) (len0 cap0 : Nat) (z0 : List Int) (w : World) (w0 : (a0 = none ∧ len0 = 0 ∧ cap0 = 0 ∧ z0 = []) ∨ ∃ x, a0 = some x ∧ len0 ≤ cap0 ∧ cap0 ≤ maxLen ∧ z0.length = cap0 ∧ (∀ i, i < z0.length → w.cell? (x.add i) = some (.int .u8 (z0.getD i 0))) ∧ ∀ n ∈ z0, (Lit.int .u8 n).wf = true) (y0 : len0 * 1 ≤ 140737488351232) :
    Calls Try.prog 8 #[.slice a0 len0 cap0] w fun e w' => e = .returned (.bool true) ∧ Below w.heap.size w w' := by
  obtain ⟨l0, rfl, hr0, hm0, hw0, hc0⟩ := ReadsInt.ofRowC w0
  obtain ⟨k, h⟩ := P l0 hm0 y0 hw0
  refine (laws_FnTail.calls k _ _ l0 true w (Kd.C_of_reads (d := (0 : Int)) (h1 := fun _ => rfl) hr0) hc0 h).mono ?_
  rintro e w' ⟨rfl, hd⟩
  exact ⟨rfl, hd⟩

end Go.Proofs.Ytpbmnokmpihnjaa.F
namespace Go.Proofs.Ytpbmnokmpihnjaa.Base
open Go.RowKit Go.Proofs.YtpbmnokmpihnjaaW.PrintWords Go.Proofs.YtpbmnokmpihnjaaW.PrintMore

theorem w64 {x : Int} (h0 : -9223372036854775808 ≤ x) (h1 : x ≤ 9223372036854775807) : wrap64 x = x := by
  unfold wrap64
  omega

def L (s : ByteArray) : List UInt8 := s.data.toList
def B (l : List UInt8) : ByteArray := ⟨l.toArray⟩
theorem L_B (l : List UInt8) : L (B l) = l := by simp [L, B]
theorem B_L (s : ByteArray) : B (L s) = s := by simp [L, B]
theorem L_inj {a b : ByteArray} (h : L a = L b) : a = b := by rw [← B_L a, ← B_L b, h]
theorem L_iff {a b : ByteArray} : L a = L b ↔ a = b := ⟨L_inj, fun h => by rw [h]⟩
theorem size_L (s : ByteArray) : s.size = (L s).length := by simp [L]
theorem toL (s : ByteArray) : s.toList = L s := Lib.toList_data s
theorem L_extract (s : ByteArray) (i j : Nat) : L (s.extract i j) = ((L s).drop i).take (j - i) := by
  simp [L, ByteArray.data_extract]
theorem L_append (a b : ByteArray) : L (a ++ b) = L a ++ L b := by
  simp [L, ByteArray.data_append]
theorem bt_L (s : ByteArray) (i : Int) : bt s i = (((L s).getD i.toNat 0).toNat : Int) := by
  unfold bt
  split
  · rename_i h
    have h' : i.toNat < (L s).length := by rw [← size_L]; exact h
    rw [List.getD_eq_getElem?_getD, List.getElem?_eq_getElem h']
    rfl
  · rename_i h
    have h' : (L s).length ≤ i.toNat := by rw [← size_L]; omega
    rw [List.getD_eq_getElem?_getD, List.getElem?_eq_none h']
    rfl
theorem bt_mid {x : ByteArray} {p : List UInt8} {c : UInt8} {r : List UInt8} (h : L x = p ++ c :: r) {i : Int} (hi : i = (p.length : Int)) : bt x i = (c.toNat : Int) := by
  rw [bt_L, h, hi]
  simp [List.getD_eq_getElem?_getD]
theorem bt_cons {x : ByteArray} {c : UInt8} {r : List UInt8} (h : L x = c :: r) : bt x 0 = (c.toNat : Int) := bt_mid (p := []) h rfl
theorem L_strOfNums (xs : List Int) : L (strOfNums xs) = xs.map fun n => UInt8.ofNat n.toNat := by simp [L, strOfNums]
theorem byte_le (c : UInt8) : (c.toNat : Int) ≤ 255 := by have := c.toNat_lt; omega
theorem byte_id (c : UInt8) : UInt8.ofNat ((c.toNat : Int)).toNat = c := by simp

theorem drop_len {α : Type} (p t : List α) (k : Nat) : (p ++ t).drop (p.length + k) = t.drop k := by
  rw [List.drop_append, List.drop_eq_nil_of_le (by omega), List.nil_append, Nat.add_sub_cancel_left]
theorem getD_len {α : Type} (p t : List α) (k : Nat) (d : α) : (p ++ t).getD (p.length + k) d = t.getD k d := by
  simp [List.getD_eq_getElem?_getD, List.getElem?_append_right]

/-- The labels of a name's bytes; none: they are no name (but for the limit on the whole). -/
def labs : List UInt8 → Option (List ByteArray)
  | [] => none
  | c :: r => if c.toNat = 0 then (if r = [] then some [] else none) else if 63 < c.toNat then none else if r.length < c.toNat then none else (labs (r.drop c.toNat)).map (B (r.take c.toNat) :: ·)
  termination_by l => l.length
  decreasing_by simp; omega

/-- The labels of a name. -/
def names (l : List UInt8) : Option (List ByteArray) := if l.length < 1 ∨ 255 < l.length then none else labs l

/-- What a cut in labels answers that had come to some. -/
def res (acc : List ByteArray) : Option (List ByteArray) → List ByteArray × Bool
  | none => ([], false)
  | some ls => (acc ++ ls, true)
theorem res_map (acc : List ByteArray) (b : ByteArray) (o : Option (List ByteArray)) : res acc (o.map (b :: ·)) = res (acc ++ [b]) o := by
  cases o <;> simp [res]

/-- What the other cut in labels leaves where it fails. -/
def jk (acc : List ByteArray) : List UInt8 → List ByteArray
  | [] => []
  | c :: r => if c.toNat = 0 then acc else if 63 < c.toNat then [] else if r.length < c.toNat then [] else jk (acc ++ [B (r.take c.toNat)]) (r.drop c.toNat)
  termination_by l => l.length
  decreasing_by simp; omega
def res2 (acc : List ByteArray) (l : List UInt8) : List ByteArray × Bool := match labs l with
  | none => (jk acc l, false)
  | some ls => (acc ++ ls, true)
theorem labs_count : ∀ (n : Nat) (l : List UInt8), l.length ≤ n → ∀ ls, labs l = some ls → ls.length + 1 ≤ l.length := by
  intro n
  induction n with
  | zero =>
    intro l hl ls h
    obtain rfl : l = [] := List.length_eq_zero_iff.1 (by omega)
    simp [labs] at h
  | succ n ih =>
    intro l hl ls h
    cases l with
    | nil => simp [labs] at h
    | cons c r =>
      simp only [List.length_cons] at hl ⊢
      rw [labs] at h
      by_cases h0 : c.toNat = 0
      · rw [if_pos h0] at h
        by_cases hr : r = []
        · rw [if_pos hr] at h
          obtain rfl := Option.some.inj h
          simp
        · rw [if_neg hr] at h
          cases h
      · rw [if_neg h0] at h
        by_cases h63 : 63 < c.toNat
        · rw [if_pos h63] at h
          cases h
        · rw [if_neg h63] at h
          by_cases hl2 : r.length < c.toNat
          · rw [if_pos hl2] at h
            cases h
          · rw [if_neg hl2] at h
            obtain ⟨t, ht, rfl⟩ := Option.map_eq_some_iff.1 h
            have := ih (r.drop c.toNat) (by simp; omega) t ht
            simp at this ⊢
            omega
theorem names_count {l : List UInt8} {ls : List ByteArray} (h : names l = some ls) : ls.length ≤ 254 := by
  unfold names at h
  split at h
  · cases h
  · have := labs_count _ l (Nat.le_refl _) ls h
    omega
end Go.Proofs.Ytpbmnokmpihnjaa.Base
namespace Go.Proofs.Ytpbmnokmpihnjaa.Base
open Go Go.RowKit Go.Proofs.YtpbmnokmpihnjaaW.PrintWords Go.Proofs.YtpbmnokmpihnjaaW.PrintMore

def low (c : UInt8) : UInt8 := if 65 ≤ c.toNat ∧ c.toNat ≤ 90 then UInt8.ofNat (c.toNat + 32) else c
theorem low_toNat (c : UInt8) : (low c).toNat = if 65 ≤ c.toNat ∧ c.toNat ≤ 90 then c.toNat + 32 else c.toNat := by
  unfold low
  split
  · rw [UInt8.toNat_ofNat']
    omega
  · rfl
theorem low_small {c : UInt8} (h : c.toNat ≤ 64) : low c = c := by
  unfold low
  rw [if_neg (by omega)]
theorem low_low (c : UInt8) : low (low c) = low c := by
  apply UInt8.toNat_inj.1
  rw [low_toNat (low c), low_toNat c]
  by_cases h : 65 ≤ c.toNat ∧ c.toNat ≤ 90
  · rw [if_pos h, if_neg (by omega)]
  · rw [if_neg h, if_neg h]
def foldB (s : ByteArray) : ByteArray := B ((L s).map low)
theorem L_foldB (s : ByteArray) : L (foldB s) = (L s).map low := L_B _
theorem foldB_size (s : ByteArray) : (foldB s).size = s.size := by rw [size_L, size_L, L_foldB, List.length_map]
theorem foldB_foldB (s : ByteArray) : foldB (foldB s) = foldB s := by
  apply L_inj
  rw [L_foldB, L_foldB, List.map_map]
  exact List.map_congr_left fun c _ => low_low c
def joinL (ls : List ByteArray) : List UInt8 := ls.flatMap fun s => UInt8.ofNat s.size :: L s
def join (ls : List ByteArray) : ByteArray := B (joinL ls ++ [0])
theorem joinL_cons (s : ByteArray) (t : List ByteArray) : joinL (s :: t) = UInt8.ofNat s.size :: (L s ++ joinL t) := by simp [joinL]
theorem joinL_append (a b : List ByteArray) : joinL (a ++ b) = joinL a ++ joinL b := by simp [joinL]
theorem L_join (ls : List ByteArray) : L (join ls) = joinL ls ++ [0] := L_B _
theorem size_join (ls : List ByteArray) : (join ls).size = (joinL ls).length + 1 := by rw [size_L, L_join]; simp
/-- A name's bytes are its labels joined, and each label has from 1 to 63 bytes. -/
theorem labs_join : ∀ (n : Nat) (l : List UInt8), l.length ≤ n → ∀ ls, labs l = some ls → l = joinL ls ++ [0] ∧ ∀ s ∈ ls, 1 ≤ s.size ∧ s.size ≤ 63 := by
  intro n
  induction n with
  | zero =>
    intro l hl ls h
    obtain rfl : l = [] := List.length_eq_zero_iff.1 (by omega)
    simp [labs] at h
  | succ n ih =>
    intro l hl ls h
    cases l with
    | nil => simp [labs] at h
    | cons c r =>
      simp only [List.length_cons] at hl
      rw [labs] at h
      by_cases h0 : c.toNat = 0
      · rw [if_pos h0] at h
        by_cases hr : r = []
        · rw [if_pos hr] at h
          obtain rfl := Option.some.inj h
          subst hr
          have : c = 0 := UInt8.toNat_inj.1 h0
          subst this
          exact ⟨by simp [joinL], by simp⟩
        · rw [if_neg hr] at h; cases h
      · rw [if_neg h0] at h
        by_cases h63 : 63 < c.toNat
        · rw [if_pos h63] at h; cases h
        · rw [if_neg h63] at h
          by_cases hl2 : r.length < c.toNat
          · rw [if_pos hl2] at h; cases h
          · rw [if_neg hl2] at h
            obtain ⟨t, ht, rfl⟩ := Option.map_eq_some_iff.1 h
            obtain ⟨h1, h2⟩ := ih (r.drop c.toNat) (by simp; omega) t ht
            have hs : (B (r.take c.toNat)).size = c.toNat := by rw [size_L, L_B, List.length_take]; omega
            refine ⟨?_, ?_⟩
            · rw [joinL_cons, hs, L_B, List.cons_append, List.append_assoc, ← h1, List.take_append_drop]
              simp
            · intro s hm
              rcases List.mem_cons.1 hm with rfl | hm
              · rw [hs]; omega
              · exact h2 s hm
theorem names_join {l : List UInt8} {ls : List ByteArray} (h : names l = some ls) : l = joinL ls ++ [0] ∧ (∀ s ∈ ls, 1 ≤ s.size ∧ s.size ≤ 63) ∧ l.length ≤ 255 := by
  unfold names at h
  split at h
  · cases h
  · obtain ⟨h1, h2⟩ := labs_join _ l (Nat.le_refl _) ls h
    exact ⟨h1, h2, by omega⟩
/-- Labels of good length, joined, are cut into just these labels. -/
theorem labs_of_join : ∀ (ls : List ByteArray), (∀ s ∈ ls, 1 ≤ s.size ∧ s.size ≤ 63) → labs (joinL ls ++ [0]) = some ls := by
  intro ls
  induction ls with
  | nil => intro _; simp [joinL, labs]
  | cons s t ih =>
    intro h
    have hs := h s (by simp)
    have ht := ih fun x hx => h x (by simp [hx])
    have hl := size_L s
    have hn : (UInt8.ofNat s.size).toNat = s.size := by rw [UInt8.toNat_ofNat']; omega
    rw [joinL_cons, List.cons_append, labs, hn, if_neg (by omega), if_neg (by omega), if_neg (by simp; omega)]
    have e1 : (L s ++ joinL t ++ [0]).drop s.size = joinL t ++ [0] := by rw [List.append_assoc, hl, List.drop_left]
    have e2 : (L s ++ joinL t ++ [0]).take s.size = L s := by rw [List.append_assoc, hl, List.take_left]
    rw [e1, e2, ht, B_L]
    rfl
theorem names_of_join {ls : List ByteArray} (h : ∀ s ∈ ls, 1 ≤ s.size ∧ s.size ≤ 63) (hn : (joinL ls).length + 1 ≤ 255) : names (joinL ls ++ [0]) = some ls := by
  unfold names
  rw [if_neg (by simp; omega), labs_of_join ls h]
theorem joinL_fold : ∀ (ls : List ByteArray), (∀ s ∈ ls, s.size ≤ 63) → (joinL ls).map low = joinL (ls.map foldB) := by
  intro ls
  induction ls with
  | nil => intro _; simp [joinL]
  | cons s t ih =>
    intro h
    have hs := h s (by simp)
    rw [joinL_cons, List.map_cons, List.map_append, ih fun x hx => h x (by simp [hx]), List.map_cons, joinL_cons, foldB_size, L_foldB, low_small (by rw [UInt8.toNat_ofNat']; omega)]
theorem fold_join {ls : List ByteArray} (h : ∀ s ∈ ls, s.size ≤ 63) : foldB (join ls) = join (ls.map foldB) := by
  apply L_inj
  rw [L_foldB, L_join, L_join, List.map_append, joinL_fold ls h]
  simp [low_small]
theorem join_names {a : ByteArray} {ls : List ByteArray} (h : names (L a) = some ls) : join ls = a := L_inj (by rw [L_join, ← (names_join h).1])
theorem mem_size {ls : List ByteArray} (h : ∀ s ∈ ls, 1 ≤ s.size ∧ s.size ≤ 63) : ∀ s ∈ ls, s.size ≤ 63 := fun s hs => (h s hs).2
theorem joinL_len_fold (ls : List ByteArray) : (joinL (ls.map foldB)).length = (joinL ls).length := by
  induction ls with
  | nil => rfl
  | cons s t ih => rw [List.map_cons, joinL_cons, joinL_cons]; simp [ih, L_foldB]
theorem joinL_len_drop (ls : List ByteArray) (n : Nat) : (joinL (ls.drop n)).length ≤ (joinL ls).length := by
  have h : joinL ls = joinL (ls.take n) ++ joinL (ls.drop n) := by rw [← joinL_append, List.take_append_drop]
  rw [h, List.length_append]; omega
theorem joinL_len_ge (ls : List ByteArray) : ls.length ≤ (joinL ls).length := by
  induction ls with
  | nil => simp
  | cons s t ih => rw [joinL_cons]; simp; omega
theorem mem_len_le {ls : List ByteArray} {s : ByteArray} (h : s ∈ ls) : s.size ≤ (joinL ls).length := by
  induction ls with
  | nil => cases h
  | cons x t ih =>
    rw [joinL_cons, size_L]
    rcases List.mem_cons.1 h with rfl | h
    · simp; omega
    · have := ih h
      rw [size_L] at this
      simp; omega
def sameN (a b : ByteArray) : Bool := (names (L a)).isSome && ((names (L b)).isSome && (L (foldB a) == L (foldB b)))
theorem foldB_ne {a : ByteArray} {ls : List ByteArray} (h : names (L a) = some ls) : L (foldB a) ≠ [] := by
  rw [L_foldB, (names_join h).1]
  simp
/-- A name without its first labels. -/
def ancN (o : Option (List ByteArray)) (n : Int) : ByteArray × Int := match o with
  | none => (⟨#[]⟩, 32)
  | some ls => if n < 0 ∨ n > (ls.length : Int) then (⟨#[]⟩, 32) else (join (ls.drop n.toNat), 0)
/-- The order of two names by their labels from the right, given turned round. -/
def cmpR : List ByteArray → List ByteArray → Int
  | [], [] => 0
  | [], _ :: _ => -1
  | _ :: _, [] => 1
  | a :: x, b :: y => if Lib.compareBytes (L (foldB a)) (L (foldB b)) = 0 then cmpR x y else Lib.compareBytes (L (foldB a)) (L (foldB b))
/-- The order of two names. -/
def cmpN (a b : ByteArray) : Int := match names (L a), names (L b) with
  | some x, some y => cmpR x.reverse y.reverse
  | _, _ => 0
theorem rev_drop (l : List ByteArray) (i : Nat) (h : i < l.length) : l.reverse.drop i = l.getD (l.length - (i + 1)) ByteArray.empty :: l.reverse.drop (i + 1) := by
  rw [List.drop_eq_getElem_cons (by simpa using h)]
  congr 1
  rw [List.getElem_reverse, List.getD_eq_getElem?_getD, List.getElem?_eq_getElem (by omega)]
  simp only [Option.getD_some]
  congr 1
  omega
/-- The name that labels make. -/
def mkN (ls : List ByteArray) : ByteArray × Int := if 127 < ls.length then (⟨#[]⟩, 3) else if ∃ s ∈ ls, s.size < 1 ∨ 63 < s.size then (⟨#[]⟩, 2) else if 255 < (joinL ls).length + 1 then (⟨#[]⟩, 3) else (join ls, 0)
def GoodL (ls : List ByteArray) : Prop := ∀ s ∈ ls, 1 ≤ s.size ∧ s.size ≤ 63
theorem join_inj {x y : List ByteArray} (hx : GoodL x) (hy : GoodL y) (h : join x = join y) : x = y := by
  have h2 : labs (L (join x)) = labs (L (join y)) := by rw [h]
  rw [L_join, L_join, labs_of_join x hx, labs_of_join y hy] at h2
  exact Option.some.inj h2
theorem GoodL.fold {x : List ByteArray} (hx : GoodL x) : GoodL (x.map foldB) := by
  intro s hs
  obtain ⟨t, ht, rfl⟩ := List.mem_map.1 hs
  rw [foldB_size]
  exact hx t ht
theorem GoodL.drop {x : List ByteArray} (hx : GoodL x) (n : Nat) : GoodL (x.drop n) := fun s hs => hx s (List.mem_of_mem_drop hs)
theorem GoodL.take {x : List ByteArray} (hx : GoodL x) (n : Nat) : GoodL (x.take n) := fun s hs => hx s (List.mem_of_mem_take hs)
theorem GoodL.append {x y : List ByteArray} (hx : GoodL x) (hy : GoodL y) : GoodL (x ++ y) := fun s hs => (List.mem_append.1 hs).elim (hx s) (hy s)
theorem foldB_join_iff {x y : List ByteArray} (hx : GoodL x) (hy : GoodL y) : foldB (join x) = foldB (join y) ↔ x.map foldB = y.map foldB := by
  rw [fold_join (mem_size hx), fold_join (mem_size hy)]
  exact ⟨join_inj hx.fold hy.fold, fun h => by rw [h]⟩
theorem names_good {a : ByteArray} {ls : List ByteArray} (h : names (L a) = some ls) : GoodL ls ∧ join ls = a ∧ (joinL ls).length + 1 ≤ 255 := by
  obtain ⟨h1, h2, h3⟩ := names_join h
  exact ⟨h2, join_names h, by rw [h1] at h3; simpa using h3⟩
theorem joinL_good_ge : ∀ {ls : List ByteArray}, GoodL ls → 2 * ls.length ≤ (joinL ls).length := by
  intro ls
  induction ls with
  | nil => intro _; simp
  | cons s t ih =>
    intro h
    have h1 := h s (by simp)
    have h2 := ih fun x hx => h x (by simp [hx])
    have := size_L s
    rw [joinL_cons]
    simp only [List.length_cons, List.length_append]
    omega
/-- The name of good labels. -/
def mkG (ls : List ByteArray) : ByteArray × Int := if 255 < (joinL ls).length + 1 then (⟨#[]⟩, 3) else (join ls, 0)
theorem mkN_good {ls : List ByteArray} (h : GoodL ls) : mkN ls = mkG ls := by
  have hl := joinL_good_ge h
  have hne : ¬ ∃ s ∈ ls, s.size < 1 ∨ 63 < s.size := by
    rintro ⟨s, hs, hb⟩
    have := h s hs
    omega
  unfold mkN mkG
  by_cases h1 : 127 < ls.length
  · rw [if_pos h1, if_pos (by omega)]
  · rw [if_neg h1, if_neg hne]
/-- Is a name another one or below it: by their labels. -/
def underL (x y : List ByteArray) : Bool := decide (y.length ≤ x.length ∧ (x.drop (x.length - y.length)).map foldB = y.map foldB)
def underN (a b : ByteArray) : Bool := match names (L a), names (L b) with
  | some x, some y => underL x y
  | _, _ => false
theorem sameN_iff {a b : ByteArray} {x y : List ByteArray} (hx : names (L a) = some x) (hy : names (L b) = some y) : sameN a b = decide (x.map foldB = y.map foldB) := by
  obtain ⟨gx, jx, _⟩ := names_good hx
  obtain ⟨gy, jy, _⟩ := names_good hy
  unfold sameN
  rw [hx, hy]
  simp only [Option.isSome_some, Bool.true_and]
  by_cases h : x.map foldB = y.map foldB
  · rw [decide_eq_true h, beq_iff_eq, ← jx, ← jy, (foldB_join_iff gx gy).2 h]
  · rw [decide_eq_false h, beq_eq_false_iff_ne]
    intro e
    rw [← jx, ← jy] at e
    exact h ((foldB_join_iff gx gy).1 (L_inj e))
/-- A name put below another one. -/
def tailN (a b c : ByteArray) : ByteArray × Int := match names (L a), names (L b), names (L c) with
  | some x, some y, some z => if underL x y = true ∧ x.length ≠ y.length then mkG (x.take (x.length - y.length) ++ z) else (⟨#[]⟩, 22)
  | _, _, _ => (⟨#[]⟩, 32)
end Go.Proofs.Ytpbmnokmpihnjaa.Base
namespace Go.Proofs.Ytpbmnokmpihnjaa.Pure
open Go.RowKit Go.Proofs.Ytpbmnokmpihnjaa.F Go.Proofs.Ytpbmnokmpihnjaa.Base Go.Proofs.YtpbmnokmpihnjaaW.PrintWords Go.Proofs.YtpbmnokmpihnjaaW.PrintLast Go.Proofs.YtpbmnokmpihnjaaW.PrintMore
set_option linter.unusedVariables false
set_option linter.unusedSimpArgs false
-- base: BaseName
theorem impl_fold_eq (a : ByteArray) (ha : a.size ≤ 140737488355328) : impl_fold.f a = some (foldB a) := by
  unfold impl_fold.f
  rw [if_pos ha]
  congr 1
  apply L_inj
  rw [L_strOfNums, L_foldB, bytesOf, List.map_map, List.map_map]
  apply List.map_congr_left
  intro c _
  simp only [Function.comp, low8]
  unfold low
  by_cases h : 65 ≤ c.toNat ∧ c.toNat ≤ 90
  · rw [if_pos (by omega), if_pos h, show ((c.toNat : Int) + 32).toNat = c.toNat + 32 from by omega]
  · rw [if_neg (by omega), if_neg h]
    simp

end Go.Proofs.Ytpbmnokmpihnjaa.Pure
namespace Go.Proofs.Ytpbmnokmpihnjaa.Pure
open Go.RowKit Go.Proofs.Ytpbmnokmpihnjaa.F Go.Proofs.Ytpbmnokmpihnjaa.Base Go.Proofs.YtpbmnokmpihnjaaW.PrintWords Go.Proofs.YtpbmnokmpihnjaaW.PrintLast Go.Proofs.YtpbmnokmpihnjaaW.PrintMore
set_option linter.unusedVariables false
set_option linter.unusedSimpArgs false
-- base: BaseName
theorem impl_joined_eq (l : List ByteArray) (hb : (joinL l).length ≤ 1000000000) : impl_joined.f l = some (join l) := by
  have hll := joinL_len_ge l
  have e : joinB l = joinL l := rfl
  unfold impl_joined.f
  rw [e, if_pos (by omega)]
  rfl

end Go.Proofs.Ytpbmnokmpihnjaa.Pure
namespace Go.Proofs.Ytpbmnokmpihnjaa.Pure
open Go.RowKit Go.Proofs.Ytpbmnokmpihnjaa.F Go.Proofs.Ytpbmnokmpihnjaa.Base Go.Proofs.YtpbmnokmpihnjaaW.PrintWords Go.Proofs.YtpbmnokmpihnjaaW.PrintLast Go.Proofs.YtpbmnokmpihnjaaW.PrintMore
set_option linter.unusedVariables false
set_option linter.unusedSimpArgs false
theorem impl_labelsOf_l0 (x : ByteArray) (hx255 : x.size ≤ 255) : ∀ (n k : Nat) (acc : List ByteArray) (p r : List UInt8), L x = p ++ r → r.length ≤ n → n < k → acc.length + r.length ≤ 300 → impl_labelsOf.l0 k x acc (p.length : Int) = some (res2 acc r) := by
  intro n
  induction n with
  | zero =>
    intro k acc p r hx hn hk hb
    obtain ⟨k, rfl⟩ : ∃ m, k = m + 1 := ⟨k - 1, by omega⟩
    obtain rfl : r = [] := List.length_eq_zero_iff.1 (by omega)
    have hs := size_L x
    rw [hx] at hs
    simp only [List.append_nil] at hs
    simp only [impl_labelsOf.l0]
    rw [if_neg (by omega)]
    simp [res2, labs, jk]
  | succ n ih =>
    intro k acc p r hx hn hk hb
    obtain ⟨k, rfl⟩ : ∃ m, k = m + 1 := ⟨k - 1, by omega⟩
    have hs := size_L x
    rw [hx] at hs
    simp only [impl_labelsOf.l0]
    cases r with
    | nil =>
      simp only [List.append_nil] at hs
      rw [if_neg (by omega)]
      simp [res2, labs, jk]
    | cons c r =>
      simp only [List.length_append, List.length_cons] at hs hn hb
      have hc := byte_le c
      rw [bt_mid hx rfl, if_pos (by omega), if_pos (by omega)]
      simp (maxSteps := 10000000) (disch := omega) only [w64]
      have hL := labs.eq_2 c r
      have hJ := jk.eq_2 acc c r
      unfold res2
      rw [hL, hJ]
      clear hL hJ
      by_cases h0 : c.toNat = 0
      · rw [if_pos (by omega), if_pos h0, if_pos h0]
        by_cases hr : r = []
        · rw [if_pos hr]
          subst hr
          simp at hs
          simp; omega
        · rw [if_neg hr]
          have : r.length ≠ 0 := fun h => hr (List.length_eq_zero_iff.1 h)
          simp; omega
      · rw [if_neg (by omega), if_neg h0, if_neg h0]
        by_cases h63 : 63 < c.toNat
        · rw [if_pos (by omega), if_pos h63, if_pos h63]
        · rw [if_neg (by omega), if_neg h63, if_neg h63]
          by_cases hl : r.length < c.toNat
          · rw [if_pos (by omega), if_pos hl, if_pos hl]
          · rw [if_neg (by omega), if_neg hl, if_neg hl, if_pos (by omega), if_pos (by omega), if_pos (by omega), if_pos (by omega)]
            have e0 : ((p.length : Int) + 1).toNat = p.length + 1 := by omega
            have e0' : ((p.length : Int) + 1 + (c.toNat : Int)).toNat = p.length + 1 + c.toNat := by omega
            rw [e0, e0']
            have e1 : x.extract (p.length + 1) (p.length + 1 + c.toNat) = B (r.take c.toNat) := L_inj (by
              rw [L_extract, hx, L_B, drop_len]
              simp)
            have e2 : (p.length : Int) + (1 + (c.toNat : Int)) = ((p ++ c :: r.take c.toNat).length : Int) := by
              simp [List.length_take]; omega
            rw [e1, e2, ih k _ (p ++ c :: r.take c.toNat) (r.drop c.toNat) (by rw [hx]; simp) (by simp; omega) (by omega) (by simp; omega)]
            unfold res2
            cases labs (List.drop c.toNat r) <;> simp
theorem impl_labelsOf_eq (a : ByteArray) (k : Nat) (hk : 400 ≤ k) : impl_labelsOf.f k a = some (match names (L a) with | none => ((impl_labelsOf.f 400 a).getD ([], false)) | some ls => (ls, true)) ∧ (names (L a) = none → ((impl_labelsOf.f 400 a).getD ([], false)).2 = false) := by
  have hs := size_L a
  have key : ∀ k, 400 ≤ k → impl_labelsOf.f k a = if 255 < (L a).length then some ([], false) else some (res2 [] (L a)) := by
    intro k hk
    unfold impl_labelsOf.f
    by_cases h2 : 255 < (L a).length
    · rw [if_pos (by omega), if_pos h2]
    · rw [if_neg (by omega), if_neg h2]
      exact impl_labelsOf_l0 a (by omega) (L a).length k [] [] (L a) rfl (Nat.le_refl _) (by omega) (by simp; omega)
  rw [key k hk, key 400 (Nat.le_refl _)]
  unfold names
  by_cases h1 : (L a).length < 1
  · have h0 : L a = [] := List.length_eq_zero_iff.1 (by omega)
    rw [if_neg (by omega), if_pos (by omega), h0]
    simp [res2, labs, jk]
  · by_cases h2 : 255 < (L a).length
    · rw [if_pos h2, if_pos (by omega)]; simp
    · rw [if_neg h2, if_neg (by omega)]
      unfold res2
      cases labs (L a) <;> simp
theorem impl_labelsOf_some {a : ByteArray} {ls : List ByteArray} (h : names (L a) = some ls) (k : Nat) (hk : 400 ≤ k) : impl_labelsOf.f k a = some (ls, true) := by
  have := (impl_labelsOf_eq a k hk).1
  rw [h] at this
  exact this
theorem impl_labelsOf_none {a : ByteArray} (h : names (L a) = none) (k : Nat) (hk : 400 ≤ k) : impl_labelsOf.f k a = some (((impl_labelsOf.f 400 a).getD ([], false)).1, false) := by
  obtain ⟨h1, h2⟩ := impl_labelsOf_eq a k hk
  rw [h] at h1
  rw [h1]
  exact congrArg some (Prod.ext rfl (h2 h))

end Go.Proofs.Ytpbmnokmpihnjaa.Pure
namespace Go.Proofs.Ytpbmnokmpihnjaa.Pure
open Go.RowKit Go.Proofs.Ytpbmnokmpihnjaa.F Go.Proofs.Ytpbmnokmpihnjaa.Base Go.Proofs.YtpbmnokmpihnjaaW.PrintWords Go.Proofs.YtpbmnokmpihnjaaW.PrintLast Go.Proofs.YtpbmnokmpihnjaaW.PrintMore
set_option linter.unusedVariables false
set_option linter.unusedSimpArgs false
-- base: BaseName
theorem impl_IsUnder_eq (a b : ByteArray) (k : Nat) (hk : 1000 ≤ k) : impl_IsUnder.f k a b = some (underN a b) := by
  obtain ⟨k, rfl⟩ : ∃ m, k = m + 1 := ⟨k - 1, by omega⟩
  unfold impl_IsUnder.f underN
  cases ha : names (L a) with
  | none =>
    rw [impl_labelsOf_none ha _ (by omega)]
    cases hb : names (L b) with
    | none => rw [impl_labelsOf_none hb _ (by omega)]; simp [impl_IsUnder.j0]
    | some y => rw [impl_labelsOf_some hb _ (by omega)]; simp [impl_IsUnder.j0]
  | some x =>
    rw [impl_labelsOf_some ha _ (by omega)]
    cases hb : names (L b) with
    | none => rw [impl_labelsOf_none hb _ (by omega)]; simp [impl_IsUnder.j0]
    | some y =>
      rw [impl_labelsOf_some hb _ (by omega)]
      obtain ⟨gx, jx, lx⟩ := names_good ha
      obtain ⟨gy, jy, ly⟩ := names_good hb
      have hlx := joinL_len_ge x
      have hly := joinL_len_ge y
      simp only [Option.bind_some, if_true, impl_IsUnder.j0]
      unfold underL
      by_cases h : x.length < y.length
      · rw [if_pos (by simp; omega), decide_eq_false (by omega)]
      · have hd := joinL_len_drop x (x.length - y.length)
        have gd := gx.drop (x.length - y.length)
        have hsb : b.size ≤ 255 := by rw [← jy, size_join]; exact ly
        rw [if_neg (by simp; omega), w64 (by omega) (by omega), if_pos (by omega), if_pos (by omega), show ((x.length : Int) - (y.length : Int)).toNat = x.length - y.length by omega, impl_joined_eq _ (by omega)]
        simp only [Option.bind_some]
        rw [impl_fold_eq _ (by rw [size_join]; omega), impl_fold_eq b (by omega)]
        simp only [Option.bind_some, toL, Option.some.injEq]
        rw [← jy]
        by_cases hf : (x.drop (x.length - y.length)).map foldB = y.map foldB
        · rw [decide_eq_true ⟨by omega, hf⟩, beq_iff_eq, (foldB_join_iff gd gy).2 hf]
        · rw [decide_eq_false (fun h1 => hf h1.2), beq_eq_false_iff_ne]
          intro e
          exact hf ((foldB_join_iff gd gy).1 (L_inj e))

end Go.Proofs.Ytpbmnokmpihnjaa.Pure
namespace Go.Proofs.Ytpbmnokmpihnjaa.Pure
open Go.RowKit Go.Proofs.Ytpbmnokmpihnjaa.F Go.Proofs.Ytpbmnokmpihnjaa.Base Go.Proofs.YtpbmnokmpihnjaaW.PrintWords Go.Proofs.YtpbmnokmpihnjaaW.PrintLast Go.Proofs.YtpbmnokmpihnjaaW.PrintMore
set_option linter.unusedVariables false
set_option linter.unusedSimpArgs false
theorem impl_Labels_eq (a : ByteArray) (k : Nat) (hk : 400 ≤ k) : impl_Labels.f k a = some ((names (L a)).getD []) := by
  unfold impl_Labels.f
  cases h : names (L a) with
  | none => rw [impl_labelsOf_none h k hk]; simp
  | some ls => rw [impl_labelsOf_some h k hk]; simp

end Go.Proofs.Ytpbmnokmpihnjaa.Pure
namespace Go.Proofs.Ytpbmnokmpihnjaa.Pure
open Go.RowKit Go.Proofs.Ytpbmnokmpihnjaa.F Go.Proofs.Ytpbmnokmpihnjaa.Base Go.Proofs.YtpbmnokmpihnjaaW.PrintWords Go.Proofs.YtpbmnokmpihnjaaW.PrintLast Go.Proofs.YtpbmnokmpihnjaaW.PrintMore
set_option linter.unusedVariables false
set_option linter.unusedSimpArgs false
theorem impl_NameOK_eq (a : ByteArray) (k : Nat) (hk : 400 ≤ k) : impl_NameOK.f k a = some (names (L a)).isSome := by
  unfold impl_NameOK.f
  cases h : names (L a) with
  | none => rw [impl_labelsOf_none h k hk]; simp
  | some ls => rw [impl_labelsOf_some h k hk]; simp

end Go.Proofs.Ytpbmnokmpihnjaa.Pure
namespace Go.Proofs.Ytpbmnokmpihnjaa.Pure
open Go.RowKit Go.Proofs.Ytpbmnokmpihnjaa.F Go.Proofs.Ytpbmnokmpihnjaa.Base Go.Proofs.YtpbmnokmpihnjaaW.PrintWords Go.Proofs.YtpbmnokmpihnjaaW.PrintLast Go.Proofs.YtpbmnokmpihnjaaW.PrintMore
set_option linter.unusedVariables false
set_option linter.unusedSimpArgs false
-- base: BaseName
theorem impl_SameName_eq (a b : ByteArray) (k : Nat) (hk : 400 ≤ k) : impl_SameName.f k a b = some (sameN a b) := by
  unfold impl_SameName.f sameN
  rw [impl_NameOK_eq a k hk, impl_NameOK_eq b k hk]
  simp only [Option.bind_some]
  cases ha : names (L a) with
  | none => simp
  | some ls =>
    cases hb : names (L b) with
    | none => simp
    | some ms =>
      have h1 := (names_join ha).2.2
      have h2 := (names_join hb).2.2
      rw [impl_fold_eq a (by rw [size_L]; omega), impl_fold_eq b (by rw [size_L]; omega)]
      simp only [Option.bind_some, Option.isSome_some, if_true, Bool.true_and, toL]

end Go.Proofs.Ytpbmnokmpihnjaa.Pure
namespace Go.Proofs.Ytpbmnokmpihnjaa.Pure
open Go.RowKit Go.Proofs.Ytpbmnokmpihnjaa.F Go.Proofs.Ytpbmnokmpihnjaa.Base Go.Proofs.YtpbmnokmpihnjaaW.PrintWords Go.Proofs.YtpbmnokmpihnjaaW.PrintLast Go.Proofs.YtpbmnokmpihnjaaW.PrintMore
set_option linter.unusedVariables false
set_option linter.unusedSimpArgs false
-- base: BaseName
theorem impl_strictly_eq (a b : ByteArray) (k : Nat) (hk : 1000 ≤ k) : impl_strictly.f k a b = some (underN a b && !sameN a b) := by
  unfold impl_strictly.f
  rw [impl_IsUnder_eq a b k hk, impl_SameName_eq a b k (by omega)]
  simp only [Option.bind_some]
  cases underN a b <;> simp

end Go.Proofs.Ytpbmnokmpihnjaa.Pure
namespace Go.Proofs.Ytpbmnokmpihnjaa.Pure
open Go.RowKit Go.Proofs.Ytpbmnokmpihnjaa.F Go.Proofs.Ytpbmnokmpihnjaa.Base Go.Proofs.YtpbmnokmpihnjaaW.PrintWords Go.Proofs.YtpbmnokmpihnjaaW.PrintLast Go.Proofs.YtpbmnokmpihnjaaW.PrintMore
set_option linter.unusedVariables false
set_option linter.unusedSimpArgs false
-- base: BaseName
theorem impl_ReplaceTail_eq (a b c : ByteArray) (k : Nat) (hk : 1001 ≤ k) : impl_ReplaceTail.f k a b c = some (tailN a b c) := by
  obtain ⟨k, rfl⟩ : ∃ m, k = m + 1 := ⟨k - 1, by omega⟩
  unfold impl_ReplaceTail.f tailN
  cases ha : names (L a) with
  | none =>
    rw [impl_labelsOf_none ha _ (by omega)]
    cases hb : names (L b) with
    | none =>
      rw [impl_labelsOf_none hb _ (by omega)]
      cases hc : names (L c) with
      | none => rw [impl_labelsOf_none hc _ (by omega)]; simp [impl_ReplaceTail.j0]
      | some z => rw [impl_labelsOf_some hc _ (by omega)]; simp [impl_ReplaceTail.j0]
    | some y =>
      rw [impl_labelsOf_some hb _ (by omega)]
      cases hc : names (L c) with
      | none => rw [impl_labelsOf_none hc _ (by omega)]; simp [impl_ReplaceTail.j0]
      | some z => rw [impl_labelsOf_some hc _ (by omega)]; simp [impl_ReplaceTail.j0]
  | some x =>
    rw [impl_labelsOf_some ha _ (by omega)]
    cases hb : names (L b) with
    | none =>
      rw [impl_labelsOf_none hb _ (by omega)]
      cases hc : names (L c) with
      | none => rw [impl_labelsOf_none hc _ (by omega)]; simp [impl_ReplaceTail.j0]
      | some z => rw [impl_labelsOf_some hc _ (by omega)]; simp [impl_ReplaceTail.j0]
    | some y =>
      rw [impl_labelsOf_some hb _ (by omega)]
      cases hc : names (L c) with
      | none => rw [impl_labelsOf_none hc _ (by omega)]; simp [impl_ReplaceTail.j0]
      | some z =>
        rw [impl_labelsOf_some hc _ (by omega)]
        obtain ⟨gx, jx, lx⟩ := names_good ha
        obtain ⟨gy, jy, ly⟩ := names_good hb
        obtain ⟨gz, jz, lz⟩ := names_good hc
        have hlx := joinL_len_ge x
        have hly := joinL_len_ge y
        have hlz := joinL_len_ge z
        have hu : underN a b = underL x y := by unfold underN; rw [ha, hb]
        simp only [Option.bind_some, if_true, Bool.not_true]
        rw [impl_ReplaceTail.j0, if_neg (by simp), impl_strictly_eq a b _ (by omega), hu, sameN_iff ha hb]
        simp only [Option.bind_some]
        cases hux : underL x y with
        | false => simp
        | true =>
          have hux' := hux
          unfold underL at hux'
          obtain ⟨hle, hdr⟩ := of_decide_eq_true hux'
          by_cases hne : x.length = y.length
          · have hd : x.map foldB = y.map foldB := by rw [← hdr, hne, Nat.sub_self, List.drop_zero]
            rw [decide_eq_true hd, if_neg (by simp), if_neg (fun h => h.2 hne)]
          · have hd : ¬ x.map foldB = y.map foldB := fun h => hne (by have := congrArg List.length h; simpa using this)
            have hnat : ((x.length : Int) - (y.length : Int)).toNat = x.length - y.length := by omega
            have hjl : (joinL (x.take (x.length - y.length) ++ z)).length ≤ 600 := by
              have h1 : joinL x = joinL (x.take (x.length - y.length)) ++ joinL (x.drop (x.length - y.length)) := by rw [← joinL_append, List.take_append_drop]
              have h2 := congrArg List.length h1
              rw [joinL_append, List.length_append]
              rw [List.length_append] at h2
              omega
            rw [decide_eq_false hd, if_pos (by simp), w64 (by omega) (by omega), if_pos (by omega), if_pos (by omega), hnat, if_pos (by simp; omega)]
            simp only [List.nil_append]
            rw [if_pos (by simp; omega), impl_joined_eq _ (by omega), if_pos ⟨trivial, hne⟩]
            simp only [Option.bind_some, size_join]
            unfold mkG
            by_cases h255 : 255 < (joinL (x.take (x.length - y.length) ++ z)).length + 1
            · rw [if_pos (by omega), if_pos h255]
            · rw [if_neg (by omega), if_neg h255]

end Go.Proofs.Ytpbmnokmpihnjaa.Pure
namespace Go.Proofs.Ytpbmnokmpihnjaa.Pure
open Go.RowKit Go.Proofs.Ytpbmnokmpihnjaa.F Go.Proofs.Ytpbmnokmpihnjaa.Base Go.Proofs.YtpbmnokmpihnjaaW.PrintWords Go.Proofs.YtpbmnokmpihnjaaW.PrintLast Go.Proofs.YtpbmnokmpihnjaaW.PrintMore
set_option linter.unusedVariables false
set_option linter.unusedSimpArgs false
-- base: BaseName
theorem spec_l01Join_eq (l : List ByteArray) (hb : (joinL l).length ≤ 1000000000) : spec_l01Join.f l = some (join l) := by
  have hll := joinL_len_ge l
  have e : joinS l = joinL l := rfl
  unfold spec_l01Join.f
  rw [e, if_pos (by omega)]
  rfl

end Go.Proofs.Ytpbmnokmpihnjaa.Pure
namespace Go.Proofs.Ytpbmnokmpihnjaa.Pure
open Go.RowKit Go.Proofs.Ytpbmnokmpihnjaa.F Go.Proofs.Ytpbmnokmpihnjaa.Base Go.Proofs.YtpbmnokmpihnjaaW.PrintWords Go.Proofs.YtpbmnokmpihnjaaW.PrintLast Go.Proofs.YtpbmnokmpihnjaaW.PrintMore
set_option linter.unusedVariables false
set_option linter.unusedSimpArgs false
def SrcOk (code : List Int) (p : Int) : Prop := code.length ≤ 1048576 ∧ 0 ≤ p ∧ p ≤ (code.length : Int)
theorem u64_eq (x : Int) : Go.IntKind.u64.wrap x = x % 18446744073709551616 := by
  simp [Go.IntKind.wrap, Go.IntKind.signed, Go.IntKind.bits]
theorem u64_range (x : Int) : 0 ≤ Go.IntKind.u64.wrap x ∧ Go.IntKind.u64.wrap x < 18446744073709551616 := by
  rw [u64_eq]
  exact ⟨Int.emod_nonneg _ (by decide), Int.emod_lt_of_pos _ (by decide)⟩
theorem u64_bits (op : Go.BinOp) (x y : Int) : 0 ≤ Go.bits op .u64 x y := by
  unfold Go.bits
  split <;> exact (u64_range _).1
theorem u64_small {n : Int} (h0 : 0 ≤ n) (h1 : n ≤ 1000000) : Go.IntKind.u64.wrap n = n := by
  rw [u64_eq]
  omega
theorem spec_l01Next_eq (code : List Int) (p st n : Int) (h : SrcOk code p) (hn : n ≤ 1000000) : ∃ x q t, spec_l01Next.f code p st n = some (x, q, t) ∧ SrcOk code q ∧ 0 ≤ x ∧ (x = 0 ∨ x < n) := by
  obtain ⟨h1, h2, h3⟩ := h
  unfold spec_l01Next.f
  by_cases h0 : n ≤ 0
  · rw [if_pos h0]
    exact ⟨_, _, _, rfl, ⟨h1, h2, h3⟩, Int.le_refl _, .inl rfl⟩
  · rw [if_neg h0, u64_small (by omega) hn]
    have key : ∀ X : Int, 0 ≤ X → wrap64 (Int.tmod X n) = X % n := by
      intro X hX
      rw [Int.tmod_eq_emod_of_nonneg hX]
      have a1 := Int.emod_nonneg X (show n ≠ 0 by omega)
      have a2 := Int.emod_lt_of_pos X (show 0 < n by omega)
      exact w64 (by omega) (by omega)
    have kx : ∀ X : Int, 0 ≤ X % n ∧ X % n < n := fun X => ⟨Int.emod_nonneg X (by omega), Int.emod_lt_of_pos X (by omega)⟩
    have hd : ∀ Y : Int, 0 ≤ Go.IntKind.u64.wrap Y / 8589934592 := fun Y => Int.ediv_nonneg (u64_range Y).1 (by decide)
    by_cases hp : p < (code.length : Int)
    · rw [if_pos hp, if_pos h2, if_neg (show ¬ n = 0 by omega)]
      refine ⟨_, _, _, rfl, ⟨h1, ?_, ?_⟩, ?_, .inr ?_⟩
      · rw [w64 (by omega) (by omega)]; omega
      · rw [w64 (by omega) (by omega)]; omega
      · rw [key _ (u64_bits _ _ _)]; exact (kx _).1
      · rw [key _ (u64_bits _ _ _)]; exact (kx _).2
    · rw [if_neg hp, if_neg (show ¬ n = 0 by omega)]
      refine ⟨_, _, _, rfl, ⟨h1, h2, h3⟩, ?_, .inr ?_⟩
      · rw [key _ (hd _)]; exact (kx _).1
      · rw [key _ (hd _)]; exact (kx _).2

end Go.Proofs.Ytpbmnokmpihnjaa.Pure
namespace Go.Proofs.Ytpbmnokmpihnjaa.Pure
open Go.RowKit Go.Proofs.Ytpbmnokmpihnjaa.F Go.Proofs.Ytpbmnokmpihnjaa.Base Go.Proofs.YtpbmnokmpihnjaaW.PrintWords Go.Proofs.YtpbmnokmpihnjaaW.PrintLast Go.Proofs.YtpbmnokmpihnjaaW.PrintMore
set_option linter.unusedVariables false
set_option linter.unusedSimpArgs false
theorem spec_l01Split_l0 : ∀ (n k : Nat) (acc : List ByteArray) (x : ByteArray), x.size ≤ n → n < k → acc.length + x.size ≤ 300 → spec_l01Split.l0 k acc x = some (res acc (labs (L x))) := by
  intro n
  induction n with
  | zero =>
    intro k acc x hn hk hb
    obtain ⟨k, rfl⟩ : ∃ m, k = m + 1 := ⟨k - 1, by omega⟩
    have hs := size_L x
    have hx : L x = [] := List.length_eq_zero_iff.1 (by omega)
    simp only [spec_l01Split.l0, toL]
    rw [if_pos hx, hx]
    simp [labs, res]
  | succ n ih =>
    intro k acc x hn hk hb
    obtain ⟨k, rfl⟩ : ∃ m, k = m + 1 := ⟨k - 1, by omega⟩
    have hs := size_L x
    simp only [spec_l01Split.l0, toL]
    cases hx : L x with
    | nil => rw [if_pos rfl]; simp [labs, res]
    | cons c r =>
      rw [hx] at hs
      simp only [List.length_cons] at hs
      have hc := byte_le c
      rw [bt_cons hx, if_neg (by simp), if_pos (by omega)]
      simp (maxSteps := 10000000) (disch := omega) only [w64]
      rw [labs]
      by_cases h0 : c.toNat = 0
      · rw [if_pos (by omega), if_pos h0]
        by_cases hr : r = []
        · rw [if_pos (by subst hr; simp at hs; omega), if_pos hr]; simp [res]
        · rw [if_neg (by intro h; exact hr (List.length_eq_zero_iff.1 (by omega))), if_neg hr]; simp [res]
      · rw [if_neg (by omega), if_neg h0]
        by_cases h63 : 63 < c.toNat
        · rw [if_pos (by omega), if_pos h63]; simp [res]
        · rw [if_neg (by omega), if_neg h63]
          by_cases hl : r.length < c.toNat
          · rw [if_pos (by omega), if_pos hl]; simp [res]
          · rw [if_neg (by omega), if_neg hl, if_pos (by omega), if_pos (by omega), if_pos (by omega), if_pos (by omega)]
            have e0 : ((c.toNat : Int) + 1).toNat = c.toNat + 1 := by omega
            rw [e0]
            have e1 : x.extract 1 (c.toNat + 1) = B (r.take c.toNat) := L_inj (by rw [L_extract, hx, L_B]; simp)
            have e2 : L (x.extract (c.toNat + 1) x.size) = r.drop c.toNat := by rw [L_extract, hx, hs]; simp [List.take_of_length_le]
            have e3 : (x.extract (c.toNat + 1) x.size).size = r.length - c.toNat := by rw [size_L, e2]; simp
            rw [ih k _ _ (by omega) (by omega) (by simp; omega), e1, e2, res_map]
theorem spec_l01Split_eq (a : ByteArray) (k : Nat) (hk : 400 ≤ k) : spec_l01Split.f k a = some (res [] (names (L a))) := by
  obtain ⟨k, rfl⟩ : ∃ m, k = m + 1 := ⟨k - 1, by omega⟩
  have hs := size_L a
  unfold spec_l01Split.f names
  simp only [Option.bind_some, spec_l01Split.j0]
  by_cases h1 : (L a).length < 1
  · rw [if_pos (by omega), if_pos trivial, if_pos (by omega)]; simp [res]
  · rw [if_neg (by omega)]
    by_cases h2 : 255 < (L a).length
    · rw [if_pos (by simp; omega), if_pos (by omega)]; simp [res]
    · rw [if_neg (by simp; omega), if_neg (by omega)]
      exact spec_l01Split_l0 a.size k [] a (Nat.le_refl _) (by omega) (by simp; omega)

end Go.Proofs.Ytpbmnokmpihnjaa.Pure
namespace Go.Proofs.Ytpbmnokmpihnjaa.Pure
open Go.RowKit Go.Proofs.Ytpbmnokmpihnjaa.F Go.Proofs.Ytpbmnokmpihnjaa.Base Go.Proofs.YtpbmnokmpihnjaaW.PrintWords Go.Proofs.YtpbmnokmpihnjaaW.PrintLast Go.Proofs.YtpbmnokmpihnjaaW.PrintMore
set_option linter.unusedVariables false
set_option linter.unusedSimpArgs false
-- base: BaseName
theorem spec_l01Case_go (code : List Int) : ∀ (xs : List Int) (p st : Int), SrcOk code p → ∃ o q t, spec_l01Case.go code xs p st = some (o, q, t) ∧ SrcOk code q ∧ o.length = xs.length := by
  intro xs
  induction xs with
  | nil => intro p st h; exact ⟨[], p, st, rfl, h, rfl⟩
  | cons c r ih =>
    intro p st h
    rw [spec_l01Case.go]
    by_cases hc : 97 ≤ c ∧ c ≤ 122
    · rw [if_pos hc]
      obtain ⟨y, q, t, e, hq, _, _⟩ := spec_l01Next_eq code p st 3 h (by omega)
      rw [e]
      simp only [Option.bind_some]
      obtain ⟨o, q2, t2, e2, hq2, ho⟩ := ih q t hq
      rw [e2]
      exact ⟨_, _, _, rfl, hq2, by simp [ho]⟩
    · rw [if_neg hc]
      obtain ⟨o, q2, t2, e2, hq2, ho⟩ := ih p st h
      rw [e2]
      exact ⟨_, _, _, rfl, hq2, by simp [ho]⟩
theorem spec_l01Case_labs (code : List Int) : ∀ (l : List ByteArray) (p st : Int), SrcOk code p → (∀ s ∈ l, s.size ≤ 1000) → ∃ o q t, spec_l01Case.labs code l p st = some (o, q, t) ∧ SrcOk code q ∧ (joinL o).length = (joinL l).length := by
  intro l
  induction l with
  | nil => intro p st h _; exact ⟨[], p, st, rfl, h, rfl⟩
  | cons s r ih =>
    intro p st h hs
    have h1 := hs s (by simp)
    rw [spec_l01Case.labs, if_neg (by omega)]
    obtain ⟨o, q, t, e, hq, ho⟩ := spec_l01Case_go code (bytesOf s) p st h
    rw [e]
    simp only [Option.bind_some]
    obtain ⟨u, q2, t2, e2, hq2, hu⟩ := ih q t hq (fun x hx => hs x (by simp [hx]))
    rw [e2]
    refine ⟨_, _, _, rfl, hq2, ?_⟩
    have hl := bytesOf_length s
    have h3 := size_L s
    rw [joinL_cons, joinL_cons]
    simp only [List.length_cons, List.length_append, L_strOfNums, List.length_map]
    omega
theorem spec_l01Case_eq (code : List Int) (p st : Int) (a : ByteArray) (k : Nat) (h : SrcOk code p) (hk : 400 ≤ k) : ∃ b q t, spec_l01Case.f k code p st a = some (b, q, t) ∧ SrcOk code q ∧ b.size ≤ 255 := by
  unfold spec_l01Case.f
  rw [spec_l01Split_eq a k hk]
  simp only [Option.bind_some]
  have key : ∀ l : List ByteArray, (joinL l).length + 1 ≤ 255 → (∀ s ∈ l, s.size ≤ 1000) → ∃ b q t, (if 1000000000 < l.length then none else (spec_l01Case.labs code l p st).bind fun t => (spec_l01Join.f t.1).bind fun j => some (j, t.2.1, t.2.2)) = some (b, q, t) ∧ SrcOk code q ∧ b.size ≤ 255 := by
    intro l h1 h2
    have hll := joinL_len_ge l
    rw [if_neg (by omega)]
    obtain ⟨o, q, t, e, hq, ho⟩ := spec_l01Case_labs code l p st h h2
    rw [e]
    simp only [Option.bind_some]
    rw [spec_l01Join_eq o (by omega)]
    exact ⟨_, _, _, rfl, hq, by rw [size_join]; omega⟩
  cases hn : names (L a) with
  | none => exact key [] (by simp [joinL]) (by simp)
  | some ls =>
    obtain ⟨g, _, hl⟩ := names_good hn
    exact key ls hl (fun s hs => by have := (g s hs).2; omega)

end Go.Proofs.Ytpbmnokmpihnjaa.Pure
namespace Go.Proofs.Ytpbmnokmpihnjaa.Pure
open Go.RowKit Go.Proofs.Ytpbmnokmpihnjaa.F Go.Proofs.Ytpbmnokmpihnjaa.Base Go.Proofs.YtpbmnokmpihnjaaW.PrintWords Go.Proofs.YtpbmnokmpihnjaaW.PrintLast Go.Proofs.YtpbmnokmpihnjaaW.PrintMore
set_option linter.unusedVariables false
set_option linter.unusedSimpArgs false
theorem spec_l01Bytes_l0 (code : List Int) : ∀ (d k : Nat) (xs : List Int) (n i p st : Int), SrcOk code p → 0 ≤ i → i + d = n → n ≤ 1000 → xs.length = i.toNat → d < k → ∃ b q t, spec_l01Bytes.l0 k n xs i code p st = some (b, q, t) ∧ SrcOk code q ∧ b.size = n.toNat := by
  intro d
  induction d with
  | zero =>
    intro k xs n i p st h h0 hi hn hx hk
    obtain ⟨k, rfl⟩ : ∃ m, k = m + 1 := ⟨k - 1, by omega⟩
    rw [spec_l01Bytes.l0, if_neg (by omega)]
    exact ⟨_, _, _, rfl, h, by rw [size_L, L_strOfNums, List.length_map]; omega⟩
  | succ d ih =>
    intro k xs n i p st h h0 hi hn hx hk
    obtain ⟨k, rfl⟩ : ∃ m, k = m + 1 := ⟨k - 1, by omega⟩
    obtain ⟨x, q, t, e, hq, hx0, hx1⟩ := spec_l01Next_eq code p st 256 h (by omega)
    rw [spec_l01Bytes.l0, if_pos (by omega), e]
    simp only [Option.bind_some]
    rw [if_pos (by omega), w64 (by omega) (by omega)]
    exact ih k _ n (i + 1) q t hq (by omega) (by omega) hn (by simp; omega) (by omega)
theorem spec_l01Bytes_eq (code : List Int) (p st n : Int) (k : Nat) (h : SrcOk code p) (h0 : 0 ≤ n) (hn : n ≤ 1000) (hk : 1100 ≤ k) : ∃ b q t, spec_l01Bytes.f k code p st n = some (b, q, t) ∧ SrcOk code q ∧ b.size = n.toNat := by
  unfold spec_l01Bytes.f
  exact spec_l01Bytes_l0 code n.toNat k [] n 0 p st h (Int.le_refl _) (by omega) hn rfl (by omega)

end Go.Proofs.Ytpbmnokmpihnjaa.Pure
namespace Go.Proofs.Ytpbmnokmpihnjaa.Pure
open Go.RowKit Go.Proofs.Ytpbmnokmpihnjaa.F Go.Proofs.Ytpbmnokmpihnjaa.Base Go.Proofs.YtpbmnokmpihnjaaW.PrintWords Go.Proofs.YtpbmnokmpihnjaaW.PrintLast Go.Proofs.YtpbmnokmpihnjaaW.PrintMore
set_option linter.unusedVariables false
set_option linter.unusedSimpArgs false
theorem spec_l01Label_eq (code : List Int) (p st : Int) (k : Nat) (h : SrcOk code p) (hk : 1100 ≤ k) : ∃ b q t, spec_l01Label.f k code p st = some (b, q, t) ∧ SrcOk code q ∧ b.size ≤ 7 := by
  obtain ⟨x, q, t, e, hq, hx0, hx1⟩ := spec_l01Next_eq code p st 12 h (by omega)
  unfold spec_l01Label.f
  rw [e]
  simp only [Option.bind_some]
  by_cases c0 : x = 0
  · rw [if_pos c0]; exact ⟨_, _, _, rfl, hq, by decide⟩
  rw [if_neg c0]
  by_cases c1 : x = 1
  · rw [if_pos c1]
    obtain ⟨y, q2, t2, e2, hq2, hy0, hy1⟩ := spec_l01Next_eq code q t 4 hq (by omega)
    rw [e2]
    simp only [Option.bind_some]
    rw [w64 (by omega) (by omega)]
    obtain ⟨b, q3, t3, e3, hq3, hb⟩ := spec_l01Bytes_eq code q2 t2 (1 + y) k hq2 (by omega) (by omega) hk
    rw [e3]
    simp only [Option.bind_some]
    exact ⟨_, _, _, rfl, hq3, by omega⟩
  rw [if_neg c1]
  by_cases c2 : x = 2
  · rw [if_pos c2]; exact ⟨_, _, _, rfl, hq, by decide⟩
  rw [if_neg c2]
  by_cases c3 : x = 3
  · rw [if_pos c3]; exact ⟨_, _, _, rfl, hq, by decide⟩
  rw [if_neg c3]
  by_cases c4 : x = 4
  · rw [if_pos c4]; exact ⟨_, _, _, rfl, hq, by decide⟩
  rw [if_neg c4]
  have hs : ∀ v : Int, (strOfNums [v]).size = 1 := fun v => by rw [size_L, L_strOfNums]; rfl
  by_cases c5 : x = 5
  · rw [if_pos c5]
    obtain ⟨y, q2, t2, e2, hq2, hy0, hy1⟩ := spec_l01Next_eq code q t 3 hq (by omega)
    rw [e2]
    simp only [Option.bind_some]
    rw [if_pos (by rw [hs]; omega)]
    exact ⟨_, _, _, rfl, hq2, by rw [ByteArray.size_append, hs]; decide⟩
  rw [if_neg c5]
  obtain ⟨y, q2, t2, e2, hq2, hy0, hy1⟩ := spec_l01Next_eq code q t 4 hq (by omega)
  rw [e2]
  simp only [Option.bind_some]
  exact ⟨_, _, _, rfl, hq2, by rw [hs]; decide⟩

end Go.Proofs.Ytpbmnokmpihnjaa.Pure
namespace Go.Proofs.Ytpbmnokmpihnjaa.Pure
open Go.RowKit Go.Proofs.Ytpbmnokmpihnjaa.F Go.Proofs.Ytpbmnokmpihnjaa.Base Go.Proofs.YtpbmnokmpihnjaaW.PrintWords Go.Proofs.YtpbmnokmpihnjaaW.PrintLast Go.Proofs.YtpbmnokmpihnjaaW.PrintMore
set_option linter.unusedVariables false
set_option linter.unusedSimpArgs false
-- base: BaseName
theorem spec_l01Near_set (l : List ByteArray) (b : ByteArray) : (joinL (l.set 0 b)).length ≤ (joinL l).length + 1 + b.size := by
  cases l with
  | nil => simp [joinL]
  | cons s r => rw [List.set_cons_zero, joinL_cons, joinL_cons]; simp only [List.length_cons, List.length_append, size_L]; omega
theorem spec_l01Near_j0 (code : List Int) (p st : Int) (a : ByteArray) (l : List ByteArray) (n : Int) (bb : Bool) (k : Nat) (h : SrcOk code p) (ha : a.size ≤ 2000) (hl : (joinL l).length + 1 ≤ 255) (hk : 1200 ≤ k) : ∃ b q t, spec_l01Near.j0 k a l n bb code p st = some (b, q, t) ∧ SrcOk code q ∧ b.size ≤ 2000 := by
  obtain ⟨k, rfl⟩ : ∃ m, k = m + 1 := ⟨k - 1, by omega⟩
  have hll := joinL_len_ge l
  have out : ∀ (m : List ByteArray) (q t : Int), SrcOk code q → (joinL m).length ≤ 1000 → ∃ b q' t', ((spec_l01Join.f m).bind fun t126 => (if (t126.size : Int) > 255 then (some (a, q, t)) else (some (t126, q, t)))) = some (b, q', t') ∧ SrcOk code q' ∧ b.size ≤ 2000 := by
    intro m q t hq hm
    rw [spec_l01Join_eq m (by omega)]
    simp only [Option.bind_some]
    by_cases c : ((join m).size : Int) > 255
    · rw [if_pos c]; exact ⟨_, _, _, rfl, hq, ha⟩
    · rw [if_neg c]; exact ⟨_, _, _, rfl, hq, by omega⟩
  rw [spec_l01Near.j0]
  by_cases c0 : bb = true
  · rw [if_pos c0]
    obtain ⟨b, q, t, e, hq, hb⟩ := spec_l01Label_eq code p st k h (by omega)
    rw [e]
    simp only [Option.bind_some]
    rw [if_pos (by simp; omega)]
    exact out _ q t hq (by show (joinL (b :: l)).length ≤ _; rw [joinL_cons]; simp only [List.length_cons, List.length_append, ← size_L]; omega)
  rw [if_neg c0]
  by_cases c1 : n = 4
  · rw [if_pos c1]
    by_cases c2 : (l.length : Int) > 0
    · rw [if_pos c2]
      obtain ⟨b, q, t, e, hq, hb⟩ := spec_l01Label_eq code p st k h (by omega)
      rw [e]
      simp only [Option.bind_some]
      rw [if_pos (by omega)]
      have hset := spec_l01Near_set l b
      exact out _ q t hq (by show (joinL (l.set 0 b)).length ≤ _; omega)
    · rw [if_neg c2]
      exact out _ p st h (by omega)
  · rw [if_neg c1]
    exact out _ p st h (by omega)
theorem spec_l01Near_eq (code : List Int) (p st : Int) (a : ByteArray) (k : Nat) (h : SrcOk code p) (ha : a.size ≤ 2000) (hk : 1200 ≤ k) : ∃ b q t, spec_l01Near.f k code p st a = some (b, q, t) ∧ SrcOk code q ∧ b.size ≤ 2000 := by
  unfold spec_l01Near.f
  rw [spec_l01Split_eq a k (by omega)]
  simp only [Option.bind_some]
  cases hn : names (L a) with
  | none => exact ⟨_, _, _, rfl, h, ha⟩
  | some ls =>
    obtain ⟨g, _, hl⟩ := names_good hn
    simp only [res, List.nil_append, if_true]
    obtain ⟨y, q, t, e, hq, _, _⟩ := spec_l01Next_eq code p st 5 h (by omega)
    rw [e]
    simp only [Option.bind_some]
    by_cases c0 : y = 0
    · rw [if_pos c0]
      obtain ⟨b, q2, t2, e2, hq2, hb⟩ := spec_l01Case_eq code q t a k hq (by omega)
      rw [e2]
      exact ⟨_, _, _, rfl, hq2, by show b.size ≤ 2000; omega⟩
    rw [if_neg c0]
    by_cases c1 : y = 1
    · rw [if_pos c1]
      by_cases c2 : (ls.length : Int) > 0
      · have hd := joinL_len_drop ls 1
        have c3 : (1 : Int) ≤ (ls.length : Int) := by omega
        simp only [c2, c3, if_true]
        rw [spec_l01Join_eq _ (by omega)]
        exact ⟨_, _, _, rfl, hq, by rw [size_join]; omega⟩
      · rw [if_neg c2, spec_l01Join_eq _ (by omega)]
        simp only [Option.bind_some]
        rw [if_neg (by rw [size_join]; omega)]
        exact ⟨_, _, _, rfl, hq, by rw [size_join]; omega⟩
    rw [if_neg c1]
    by_cases c2 : y = 2
    · rw [if_pos c2]
      exact spec_l01Near_j0 code q t a ls y _ k hq ha hl hk
    · rw [if_neg c2]
      exact spec_l01Near_j0 code q t a ls y _ k hq ha hl hk

end Go.Proofs.Ytpbmnokmpihnjaa.Pure
namespace Go.Proofs.Ytpbmnokmpihnjaa.Pure
open Go.RowKit Go.Proofs.Ytpbmnokmpihnjaa.F Go.Proofs.Ytpbmnokmpihnjaa.Base Go.Proofs.YtpbmnokmpihnjaaW.PrintWords Go.Proofs.YtpbmnokmpihnjaaW.PrintLast Go.Proofs.YtpbmnokmpihnjaaW.PrintMore
set_option linter.unusedVariables false
set_option linter.unusedSimpArgs false
-- base: BaseName
theorem joinL_one (l : List ByteArray) (b : ByteArray) : (joinL (l ++ [b])).length = (joinL l).length + 1 + b.size := by
  rw [joinL_append, List.length_append, joinL_cons, List.length_cons, List.length_append, size_L]
  simp [joinL]
  omega
theorem spec_l01Name_j4 (code : List Int) (p st : Int) (k : Nat) (l : List ByteArray) (h : SrcOk code p) (hl : (joinL l).length ≤ 1000) : ∃ b q t, spec_l01Name.j4 (k + 1) l code p st = some (b, q, t) ∧ SrcOk code q ∧ 1 ≤ b.size ∧ b.size ≤ 1001 := by
  rw [spec_l01Name.j4, spec_l01Join_eq l (by omega)]
  simp only [Option.bind_some]
  rw [size_join]
  by_cases h1 : ((((joinL l).length + 1 : Nat) : Int)) > 255
  · have hne : 1 ≤ (l.length : Int) := by
      cases l with
      | nil => simp [joinL] at h1
      | cons x r => simp; omega
    have hd := joinL_len_drop l 1
    rw [if_pos h1, if_pos hne, spec_l01Join_eq _ (by show (joinL (l.drop 1)).length ≤ _; omega)]
    simp only [Option.bind_some]
    exact ⟨_, _, _, rfl, h, by rw [size_join]; omega, by rw [size_join]; show (joinL (l.drop 1)).length + 1 ≤ _; omega⟩
  · rw [if_neg h1]
    exact ⟨_, _, _, rfl, h, by rw [size_join]; omega, by rw [size_join]; omega⟩
theorem spec_l01Name_room {x : Int} (h0 : 0 ≤ x) (h1 : x ≤ 100000) : wrap64 (wrap64 (255 - x) - 1) = 255 - x - 1 := by
  have e : wrap64 (255 - x) = 255 - x := w64 (by omega) (by omega)
  rw [e, w64 (by omega) (by omega)]
theorem spec_l01Name_l1 (code : List Int) : ∀ (d k : Nat) (l : List ByteArray) (p st : Int), SrcOk code p → (joinL l).length ≤ 300 → 300 ≤ (joinL l).length + d → d + 1200 < k → ∃ b q t, spec_l01Name.l1 k l code p st = some (b, q, t) ∧ SrcOk code q ∧ 1 ≤ b.size ∧ b.size ≤ 1001 := by
  intro d
  induction d with
  | zero =>
    intro k l p st h h1 h2 hk
    obtain ⟨k, rfl⟩ : ∃ m, k = m + 1 + 1 + 1 := ⟨k - 3, by omega⟩
    rw [spec_l01Name.l1, spec_l01Join_eq l (by omega)]
    simp only [Option.bind_some]
    rw [size_join, if_neg (by omega), spec_l01Name_room (by omega) (by omega), if_neg (by omega), spec_l01Name.j3, if_neg (by simp)]
    exact spec_l01Name_j4 code p st k l h (by omega)
  | succ d ih =>
    intro k l p st h h1 h2 hk
    obtain ⟨k, rfl⟩ : ∃ m, k = m + 1 + 1 + 1 := ⟨k - 3, by omega⟩
    have hll := joinL_len_ge l
    rw [spec_l01Name.l1, spec_l01Join_eq l (by omega)]
    simp only [Option.bind_some]
    rw [size_join]
    by_cases c : (((joinL l).length + 1 : Nat) : Int) < 190
    · rw [if_pos c]
      obtain ⟨x, q, t, e, hq, hx0, hx1⟩ := spec_l01Next_eq code p st 63 h (by omega)
      rw [e]
      simp only [Option.bind_some]
      rw [w64 (by omega) (by omega)]
      obtain ⟨b, q2, t2, e2, hq2, hb⟩ := spec_l01Bytes_eq code q t (1 + x) (k + 1 + 1) hq (by omega) (by omega) (by omega)
      rw [e2]
      simp only [Option.bind_some]
      rw [if_pos (by omega)]
      exact ih (k + 1 + 1) _ q2 t2 hq2 (by rw [joinL_one]; omega) (by rw [joinL_one]; omega) (by omega)
    · rw [if_neg c, spec_l01Name_room (by omega) (by omega)]
      have hj : ∀ bb : Bool, (bb = true → 255 - (((joinL l).length + 1 : Nat) : Int) - 1 ≤ 63 ∧ 0 ≤ 255 - (((joinL l).length + 1 : Nat) : Int) - 1) → ∃ b q t, spec_l01Name.j3 (k + 1 + 1) l (255 - (((joinL l).length + 1 : Nat) : Int) - 1) bb code p st = some (b, q, t) ∧ SrcOk code q ∧ 1 ≤ b.size ∧ b.size ≤ 1001 := by
        intro bb hbb
        rw [spec_l01Name.j3]
        by_cases cb : bb = true
        · rw [if_pos cb]
          obtain ⟨g1, g2⟩ := hbb cb
          obtain ⟨b, q2, t2, e2, hq2, hb⟩ := spec_l01Bytes_eq code p st _ (k + 1) h g2 (by omega) (by omega)
          rw [e2]
          simp only [Option.bind_some]
          rw [if_pos (by omega)]
          exact spec_l01Name_j4 code q2 t2 k _ hq2 (by rw [joinL_one]; omega)
        · rw [if_neg cb]
          exact spec_l01Name_j4 code p st k l h (by omega)
      by_cases c2 : 255 - (((joinL l).length + 1 : Nat) : Int) - 1 > 0
      · rw [if_pos c2]
        exact hj _ (fun hd => ⟨of_decide_eq_true hd, by omega⟩)
      · rw [if_neg c2]
        exact hj _ (fun hd => by cases hd)
theorem spec_l01Name_j1 (code : List Int) (p st : Int) (k : Nat) (l : List ByteArray) (h : SrcOk code p) (hl : (joinL l).length ≤ 300) (hk : 2000 ≤ k) : ∃ b q t, spec_l01Name.j1 k l code p st = some (b, q, t) ∧ SrcOk code q ∧ 1 ≤ b.size ∧ b.size ≤ 1001 := by
  obtain ⟨k, rfl⟩ : ∃ m, k = m + 1 := ⟨k - 1, by omega⟩
  obtain ⟨x, q, t, e, hq, hx0, hx1⟩ := spec_l01Next_eq code p st 20 h (by omega)
  rw [spec_l01Name.j1, e]
  simp only [Option.bind_some]
  by_cases c : x = 0
  · rw [if_pos c]
    exact spec_l01Name_l1 code 300 k [] q t hq (by simp [joinL]) (by omega) (by omega)
  · rw [if_neg c, spec_l01Join_eq l (by omega)]
    exact ⟨_, _, _, rfl, hq, by rw [size_join]; omega, by rw [size_join]; omega⟩
theorem spec_l01Name_l0 (code : List Int) : ∀ (d k : Nat) (l : List ByteArray) (n i p st : Int), SrcOk code p → 0 ≤ i → i + d = n → n ≤ 5 → (joinL l).length ≤ 8 * i.toNat → d + 2010 < k → ∃ b q t, spec_l01Name.l0 k l n i code p st = some (b, q, t) ∧ SrcOk code q ∧ 1 ≤ b.size ∧ b.size ≤ 1001 := by
  intro d
  induction d with
  | zero =>
    intro k l n i p st h h0 hi hn hl hk
    obtain ⟨k, rfl⟩ : ∃ m, k = m + 1 := ⟨k - 1, by omega⟩
    have hll := joinL_len_ge l
    obtain ⟨x, q, t, e, hq, hx0, hx1⟩ := spec_l01Next_eq code p st 3 h (by omega)
    rw [spec_l01Name.l0, if_neg (by omega), e]
    simp only [Option.bind_some]
    by_cases c : x > 0
    · rw [if_pos c, if_pos (by omega)]
      exact spec_l01Name_j1 code q t k _ hq (by rw [joinL_one]; have : (⟨#[101, 120, 97, 109, 112, 108, 101]⟩ : ByteArray).size = 7 := by decide
                                                omega) (by omega)
    · rw [if_neg c]
      exact spec_l01Name_j1 code q t k _ hq (by omega) (by omega)
  | succ d ih =>
    intro k l n i p st h h0 hi hn hl hk
    obtain ⟨k, rfl⟩ : ∃ m, k = m + 1 := ⟨k - 1, by omega⟩
    have hll := joinL_len_ge l
    obtain ⟨b, q, t, e, hq, hb⟩ := spec_l01Label_eq code p st k h (by omega)
    rw [spec_l01Name.l0, if_pos (by omega), e]
    simp only [Option.bind_some]
    rw [if_pos (by omega), w64 (by omega) (by omega)]
    exact ih k _ n (i + 1) q t hq (by omega) (by omega) hn (by rw [joinL_one]; omega) (by omega)
theorem spec_l01Name_eq (code : List Int) (p st : Int) (k : Nat) (h : SrcOk code p) (hk : 2100 ≤ k) : ∃ b q t, spec_l01Name.f k code p st = some (b, q, t) ∧ SrcOk code q ∧ 1 ≤ b.size ∧ b.size ≤ 1001 := by
  obtain ⟨x, q, t, e, hq, hx0, hx1⟩ := spec_l01Next_eq code p st 5 h (by omega)
  unfold spec_l01Name.f
  rw [e]
  simp only [Option.bind_some]
  exact spec_l01Name_l0 code x.toNat k [] x 0 q t hq (Int.le_refl _) (by omega) (by omega) (by simp [joinL]) (by omega)

end Go.Proofs.Ytpbmnokmpihnjaa.Pure
namespace Go.Proofs.Ytpbmnokmpihnjaa.Pure
open Go.RowKit Go.Proofs.Ytpbmnokmpihnjaa.F Go.Proofs.Ytpbmnokmpihnjaa.Base Go.Proofs.YtpbmnokmpihnjaaW.PrintWords Go.Proofs.YtpbmnokmpihnjaaW.PrintLast Go.Proofs.YtpbmnokmpihnjaaW.PrintMore
set_option linter.unusedVariables false
set_option linter.unusedSimpArgs false
theorem spec_l01Spoil_num (xs : List Int) : (strOfNums xs).size = xs.length := by rw [size_L, L_strOfNums, List.length_map]
theorem spec_l01Spoil_eq (code : List Int) (p st : Int) (a : ByteArray) (h : SrcOk code p) (h1 : 1 ≤ a.size) (h2 : a.size ≤ 2000) : ∃ b q t, spec_l01Spoil.f code p st a = some (b, q, t) ∧ SrcOk code q ∧ b.size ≤ a.size + 1 := by
  obtain ⟨x, q, t, e, hq, hx0, hx1⟩ := spec_l01Next_eq code p st 6 h (by omega)
  have hl := bytesOf_length a
  unfold spec_l01Spoil.f
  rw [if_neg (by omega), e]
  simp only [Option.bind_some]
  by_cases c0 : x = 0
  · rw [if_pos c0]; exact ⟨_, _, _, rfl, hq, by rw [ByteArray.size_append]; show a.size + 1 ≤ _; omega⟩
  rw [if_neg c0]
  by_cases c1 : x = 1
  · rw [if_pos c1, if_pos h1]; exact ⟨_, _, _, rfl, hq, by rw [spec_l01Spoil_num, List.length_take]; omega⟩
  rw [if_neg c1]
  by_cases c2 : x = 2
  · rw [if_pos c2]; exact ⟨_, _, _, rfl, hq, by show 0 ≤ _; omega⟩
  rw [if_neg c2]
  by_cases c3 : x = 3
  · rw [if_pos c3]
    obtain ⟨y, q2, t2, e2, hq2, hy0, hy1⟩ := spec_l01Next_eq code q t 256 hq (by omega)
    rw [e2]
    simp only [Option.bind_some]
    rw [if_pos h1]
    exact ⟨_, _, _, rfl, hq2, by rw [spec_l01Spoil_num, List.length_set]; omega⟩
  rw [if_neg c3]
  by_cases c4 : x = 4
  · rw [if_pos c4]; exact ⟨_, _, _, rfl, hq, by rw [ByteArray.size_append, spec_l01Spoil_num]; show 1 + _ ≤ _; omega⟩
  rw [if_neg c4]
  by_cases c5 : x = 5
  · rw [if_pos c5]
    obtain ⟨y, q2, t2, e2, hq2, hy0, hy1⟩ := spec_l01Next_eq code q t (a.size : Int) hq (by omega)
    rw [e2]
    simp only [Option.bind_some]
    rw [if_pos hy0, if_pos (by omega)]
    exact ⟨_, _, _, rfl, hq2, by rw [spec_l01Spoil_num, List.length_set]; omega⟩
  rw [if_neg c5]
  exact ⟨_, _, _, rfl, hq, by rw [spec_l01Spoil_num]; omega⟩

end Go.Proofs.Ytpbmnokmpihnjaa.Pure
namespace Go.Proofs.Ytpbmnokmpihnjaa.Pure
open Go.RowKit Go.Proofs.Ytpbmnokmpihnjaa.F Go.Proofs.Ytpbmnokmpihnjaa.Base Go.Proofs.YtpbmnokmpihnjaaW.PrintWords Go.Proofs.YtpbmnokmpihnjaaW.PrintLast Go.Proofs.YtpbmnokmpihnjaaW.PrintMore
set_option linter.unusedVariables false
set_option linter.unusedSimpArgs false
theorem spec_l01Raw_eq (code : List Int) (p st : Int) (k : Nat) (h : SrcOk code p) (hk : 2100 ≤ k) : ∃ b q t, spec_l01Raw.f k code p st = some (b, q, t) ∧ SrcOk code q ∧ b.size ≤ 2000 := by
  obtain ⟨b, q, t, e, hq, hb1, hb2⟩ := spec_l01Name_eq code p st k h hk
  unfold spec_l01Raw.f
  rw [e]
  simp only [Option.bind_some]
  obtain ⟨y, q2, t2, e2, hq2, hy0, hy1⟩ := spec_l01Next_eq code q t 8 hq (by omega)
  rw [e2]
  simp only [Option.bind_some]
  by_cases c : y = 0
  · rw [if_pos c]
    obtain ⟨z, q3, t3, e3, hq3, hz⟩ := spec_l01Spoil_eq code q2 t2 b hq2 hb1 (by omega)
    rw [e3]
    simp only [Option.bind_some]
    exact ⟨_, _, _, rfl, hq3, by omega⟩
  · rw [if_neg c]
    exact ⟨_, _, _, rfl, hq2, by omega⟩

end Go.Proofs.Ytpbmnokmpihnjaa.Pure
namespace Go.Proofs.Ytpbmnokmpihnjaa.Pure
open Go.RowKit Go.Proofs.Ytpbmnokmpihnjaa.F Go.Proofs.Ytpbmnokmpihnjaa.Base Go.Proofs.YtpbmnokmpihnjaaW.PrintWords Go.Proofs.YtpbmnokmpihnjaaW.PrintLast Go.Proofs.YtpbmnokmpihnjaaW.PrintMore
set_option linter.unusedVariables false
set_option linter.unusedSimpArgs false
theorem spec_DrawReplaceTail_eq (code : List Int) (k : Nat) (h : code.length ≤ 1048576) (hk : 2100 ≤ k) : ∃ a b c, spec_DrawReplaceTail.f k code = some (a, b, c) := by
  unfold spec_DrawReplaceTail.f
  rw [if_neg (by omega)]
  obtain ⟨a, q, t, e, hq, ha⟩ := spec_l01Raw_eq code 0 (spec_l01Begin.f code) k ⟨h, Int.le_refl _, by omega⟩ hk
  rw [e]
  simp only [Option.bind_some]
  obtain ⟨b, q2, t2, e2, hq2, hb⟩ := spec_l01Near_eq code q t a k hq ha (by omega)
  rw [e2]
  simp only [Option.bind_some]
  obtain ⟨c, q3, t3, e3, hq3, hc⟩ := spec_l01Near_eq code q2 t2 b k hq2 hb (by omega)
  rw [e3]
  simp only [Option.bind_some]
  obtain ⟨d, q4, t4, e4, hq4, hd⟩ := spec_l01Case_eq code q3 t3 a k hq3 (by omega)
  rw [e4]
  simp only [Option.bind_some]
  obtain ⟨f, q5, t5, e5, hq5, hf⟩ := spec_l01Raw_eq code q4 t4 k hq4 hk
  rw [e5]
  exact ⟨_, _, _, rfl⟩

end Go.Proofs.Ytpbmnokmpihnjaa.Pure
namespace Go.Proofs.Ytpbmnokmpihnjaa.Pure
open Go.RowKit Go.Proofs.Ytpbmnokmpihnjaa.F Go.Proofs.Ytpbmnokmpihnjaa.Base Go.Proofs.YtpbmnokmpihnjaaW.PrintWords Go.Proofs.YtpbmnokmpihnjaaW.PrintLast Go.Proofs.YtpbmnokmpihnjaaW.PrintMore
set_option linter.unusedVariables false
set_option linter.unusedSimpArgs false
-- base: BaseName
theorem spec_l01Small_l0 (x : ByteArray) (hx0 : x.size ≤ 1048576) : ∀ (n k : Nat) (acc : List Int) (p r : List UInt8), L x = p ++ r → r.length ≤ n → n < k → acc.length + r.length ≤ 1048576 → spec_l01Small.l0 k x acc (p.length : Int) = some (strOfNums (acc ++ r.map fun c => ((low c).toNat : Int))) := by
  intro n
  induction n with
  | zero =>
    intro k acc p r hx hn hk hb
    obtain ⟨k, rfl⟩ : ∃ m, k = m + 1 := ⟨k - 1, by omega⟩
    obtain rfl : r = [] := List.length_eq_zero_iff.1 (by omega)
    have hs := size_L x
    rw [hx] at hs
    simp only [List.append_nil] at hs
    rw [spec_l01Small.l0, if_neg (by omega)]
    simp
  | succ n ih =>
    intro k acc p r hx hn hk hb
    obtain ⟨k, rfl⟩ : ∃ m, k = m + 1 := ⟨k - 1, by omega⟩
    have hs := size_L x
    rw [hx] at hs
    rw [spec_l01Small.l0]
    cases r with
    | nil =>
      simp only [List.append_nil] at hs
      rw [if_neg (by omega)]
      simp
    | cons c r =>
      simp only [List.length_append, List.length_cons] at hs hn hb
      have hc := byte_le c
      rw [if_pos (by omega), if_pos (by omega), bt_mid hx rfl, w64 (by omega) (by omega)]
      have key : ∀ v : Int, v = ((low c).toNat : Int) → (if acc.length < 140737488355328 then spec_l01Small.l0 k x (acc ++ [v]) ((p.length : Int) + 1) else none) = some (strOfNums (acc ++ (c :: r).map fun c => ((low c).toNat : Int))) := by
        intro v hv
        rw [if_pos (by omega), show (p.length : Int) + 1 = ((p ++ [c]).length : Int) by simp, ih k _ (p ++ [c]) r (by rw [hx]; simp) (by omega) (by omega) (by simp; omega), hv]
        simp
      have hlow := low_toNat c
      by_cases h1 : (c.toNat : Int) ≥ 65
      · rw [if_pos h1]
        by_cases h2 : (c.toNat : Int) ≤ 90
        · rw [if_pos h2]
          rw [if_pos (by omega)] at hlow
          exact key _ (by omega)
        · rw [if_neg h2]
          rw [if_neg (by omega)] at hlow
          exact key _ (by omega)
      · rw [if_neg h1]
        rw [if_neg (by omega)] at hlow
        exact key _ (by omega)
theorem spec_l01Small_eq (a : ByteArray) (ha : a.size ≤ 1048576) (k : Nat) (hk : a.size < k) : spec_l01Small.f k a = some (foldB a) := by
  have hs := size_L a
  unfold spec_l01Small.f
  have h := spec_l01Small_l0 a ha (L a).length k [] [] (L a) rfl (Nat.le_refl _) (by omega) (by simp; omega)
  rw [show (([] : List UInt8).length : Int) = 0 from rfl] at h
  rw [h]
  congr 1
  apply L_inj
  rw [L_strOfNums, L_foldB]
  simp

end Go.Proofs.Ytpbmnokmpihnjaa.Pure
namespace Go.Proofs.Ytpbmnokmpihnjaa.Pure
open Go.RowKit Go.Proofs.Ytpbmnokmpihnjaa.F Go.Proofs.Ytpbmnokmpihnjaa.Base Go.Proofs.YtpbmnokmpihnjaaW.PrintWords Go.Proofs.YtpbmnokmpihnjaaW.PrintLast Go.Proofs.YtpbmnokmpihnjaaW.PrintMore
set_option linter.unusedVariables false
set_option linter.unusedSimpArgs false
-- base: BaseName
theorem spec_FoldName_l0 (l : List ByteArray) (hb : (joinL l).length ≤ 1000000) : ∀ (d k i : Nat), i + d = l.length → d + l.length + 1000000 < k → spec_FoldName.l0 k ((l.take i).map foldB ++ l.drop i) (i : Int) = some (join (l.map foldB)) := by
  have hll := joinL_len_ge l
  intro d
  induction d with
  | zero =>
    intro k i hi hk
    obtain ⟨k, rfl⟩ : ∃ m, k = m + 1 := ⟨k - 1, by omega⟩
    obtain rfl : i = l.length := by omega
    have e : (l.take l.length).map foldB ++ l.drop l.length = l.map foldB := by simp
    rw [spec_FoldName.l0, e, if_neg (by simp), spec_l01Join_eq _ (by rw [joinL_len_fold]; omega)]
    simp
  | succ d ih =>
    intro k i hi hk
    obtain ⟨k, rfl⟩ : ∃ m, k = m + 1 := ⟨k - 1, by omega⟩
    have hlen : ((l.take i).map foldB ++ l.drop i).length = l.length := by simp; omega
    have hel : rdOf ByteArray.empty ((l.take i).map foldB ++ l.drop i) (i : Int) = l[i]'(by omega) := by
      have hi' : i < l.length := by omega
      simp [rdOf, List.getD_eq_getElem?_getD, List.getElem?_append_right, Nat.min_eq_left (Nat.le_of_lt hi'), hi']
    have hm : l[i]'(by omega) ∈ l := List.getElem_mem _
    have hsz := mem_len_le hm
    rw [spec_FoldName.l0, if_pos (by omega), if_pos (by omega), hel, spec_l01Small_eq _ (by omega) k (by omega)]
    simp only [Option.bind_some]
    rw [w64 (by omega) (by omega)]
    have e : ((l.take i).map foldB ++ l.drop i).set (i : Int).toNat (foldB (l[i]'(by omega))) = (l.take (i + 1)).map foldB ++ l.drop (i + 1) := by
      rw [Int.toNat_natCast, List.set_append_right _ _ (by simp; omega), List.length_map, List.length_take, Nat.min_eq_left (by omega), Nat.sub_self, List.drop_eq_getElem_cons (by omega), List.set_cons_zero, List.take_succ_eq_append_getElem (by omega), List.map_append, List.append_assoc]
      simp
    rw [e]
    exact ih k (i + 1) (by omega) (by omega)
theorem spec_FoldName_eq (a : ByteArray) (k : Nat) (hk : 1100000 ≤ k) : spec_FoldName.f k a = some (if (names (L a)).isSome = true then foldB a else ⟨#[]⟩) := by
  unfold spec_FoldName.f
  rw [spec_l01Split_eq a k (by omega)]
  cases h : names (L a) with
  | none => simp [res]
  | some ls =>
    obtain ⟨h1, h2, h3⟩ := names_join h
    have hl : (joinL ls).length + 1 ≤ 255 := by rw [h1] at h3; simpa using h3
    have hll := joinL_len_ge ls
    simp only [res, Option.bind_some, if_true, List.nil_append, Option.isSome_some]
    have := spec_FoldName_l0 ls (by omega) ls.length k 0 (by omega) (by omega)
    simp only [List.take_zero, List.map_nil, List.nil_append, List.drop_zero] at this
    rw [show ((0 : Nat) : Int) = 0 from rfl] at this
    rw [this, ← fold_join (mem_size h2), join_names h]

end Go.Proofs.Ytpbmnokmpihnjaa.Pure
namespace Go.Proofs.Ytpbmnokmpihnjaa.Pure
open Go.RowKit Go.Proofs.Ytpbmnokmpihnjaa.F Go.Proofs.Ytpbmnokmpihnjaa.Base Go.Proofs.YtpbmnokmpihnjaaW.PrintWords Go.Proofs.YtpbmnokmpihnjaaW.PrintLast Go.Proofs.YtpbmnokmpihnjaaW.PrintMore
set_option linter.unusedVariables false
set_option linter.unusedSimpArgs false
-- base: BaseName
theorem spec_SameName_eq (a b : ByteArray) (k : Nat) (hk : 1100000 ≤ k) : spec_SameName.f k a b = some (sameN a b) := by
  unfold spec_SameName.f
  rw [spec_FoldName_eq a k hk, spec_FoldName_eq b k hk]
  simp only [Option.bind_some]
  unfold sameN
  cases ha : names (L a) with
  | none => simp [toL, L]
  | some ls =>
    simp only [Option.isSome_some, if_true, Bool.true_and]
    rw [toL, if_neg (foldB_ne ha)]
    cases hb : names (L b) with
    | none =>
      simp only [Option.isSome_none, Bool.false_eq_true, if_false, Bool.false_and]
      rw [toL]
      have := foldB_ne ha
      simp [L] at this ⊢
      exact this
    | some ms => simp only [Option.isSome_some, if_true, Bool.true_and, toL]

end Go.Proofs.Ytpbmnokmpihnjaa.Pure
namespace Go.Proofs.Ytpbmnokmpihnjaa.Pure
open Go.RowKit Go.Proofs.Ytpbmnokmpihnjaa.F Go.Proofs.Ytpbmnokmpihnjaa.Base Go.Proofs.YtpbmnokmpihnjaaW.PrintWords Go.Proofs.YtpbmnokmpihnjaaW.PrintLast Go.Proofs.YtpbmnokmpihnjaaW.PrintMore
set_option linter.unusedVariables false
set_option linter.unusedSimpArgs false
-- base: BaseName
theorem spec_IsUnder_eq (a b : ByteArray) (k : Nat) (hk : 1100001 ≤ k) : spec_IsUnder.f k a b = some (underN a b) := by
  obtain ⟨k, rfl⟩ : ∃ m, k = m + 1 := ⟨k - 1, by omega⟩
  unfold spec_IsUnder.f underN
  rw [spec_l01Split_eq a _ (by omega), spec_l01Split_eq b _ (by omega)]
  cases ha : names (L a) with
  | none => simp [res, spec_IsUnder.j0]
  | some x =>
    cases hb : names (L b) with
    | none => simp [res, spec_IsUnder.j0]
    | some y =>
      obtain ⟨gx, jx, lx⟩ := names_good ha
      obtain ⟨gy, jy, ly⟩ := names_good hb
      have hlx := joinL_len_ge x
      have hly := joinL_len_ge y
      simp only [res, Option.bind_some, List.nil_append, if_true, spec_IsUnder.j0]
      unfold underL
      by_cases h : x.length < y.length
      · rw [if_pos (by simp; omega), decide_eq_false (by omega)]
      · have hd := joinL_len_drop x (x.length - y.length)
        have gd := gx.drop (x.length - y.length)
        have hn : names (L (join (x.drop (x.length - y.length)))) = some (x.drop (x.length - y.length)) := by rw [L_join]; exact names_of_join gd (by omega)
        rw [if_neg (by simp; omega), w64 (by omega) (by omega), if_pos (by omega), if_pos (by omega), show ((x.length : Int) - (y.length : Int)).toNat = x.length - y.length by omega, spec_l01Join_eq _ (by omega)]
        simp only [Option.bind_some]
        rw [spec_SameName_eq _ _ k (by omega), sameN_iff hn hb]
        simp only [Option.bind_some, Option.some.injEq, decide_eq_decide]
        exact ⟨fun h1 => ⟨by omega, h1⟩, fun h1 => h1.2⟩

end Go.Proofs.Ytpbmnokmpihnjaa.Pure
namespace Go.Proofs.Ytpbmnokmpihnjaa.Pure
open Go.RowKit Go.Proofs.Ytpbmnokmpihnjaa.F Go.Proofs.Ytpbmnokmpihnjaa.Base Go.Proofs.YtpbmnokmpihnjaaW.PrintWords Go.Proofs.YtpbmnokmpihnjaaW.PrintLast Go.Proofs.YtpbmnokmpihnjaaW.PrintMore
set_option linter.unusedVariables false
set_option linter.unusedSimpArgs false
-- base: BaseName
theorem joinL_bound : ∀ (l : List ByteArray), (∀ s ∈ l, s.size ≤ 63) → (joinL l).length ≤ 64 * l.length := by
  intro l
  induction l with
  | nil => intro _; simp [joinL]
  | cons s t ih =>
    intro h
    have h1 := h s (by simp)
    have h2 := ih fun x hx => h x (by simp [hx])
    rw [joinL_cons]
    have := size_L s
    simp only [List.length_cons, List.length_append]
    omega
theorem spec_MakeName_l0 (l : List ByteArray) (hl : l.length ≤ 127) (hz : ∀ s ∈ l, s.size ≤ 1048576) : ∀ (d k i : Nat), i + d = l.length → d < k → (∀ s ∈ l.take i, 1 ≤ s.size ∧ s.size ≤ 63) → spec_MakeName.l0 k l (i : Int) = some (mkN l) := by
  intro d
  induction d with
  | zero =>
    intro k i hi hk hg
    obtain ⟨k, rfl⟩ : ∃ m, k = m + 1 := ⟨k - 1, by omega⟩
    rw [List.take_of_length_le (by omega)] at hg
    have hb := joinL_bound l (mem_size hg)
    rw [spec_MakeName.l0, if_neg (by omega), spec_l01Join_eq l (by omega)]
    simp only [Option.bind_some, size_join]
    have hne : ¬ ∃ s ∈ l, s.size < 1 ∨ 63 < s.size := by
      rintro ⟨s, hs, h⟩
      have := hg s hs
      omega
    unfold mkN
    rw [if_neg (show ¬ 127 < l.length by omega), if_neg hne]
    by_cases h : 255 < (joinL l).length + 1
    · rw [if_pos (by omega), if_pos h]
    · rw [if_neg (by omega), if_neg h]
  | succ d ih =>
    intro k i hi hk hg
    obtain ⟨k, rfl⟩ : ∃ m, k = m + 1 := ⟨k - 1, by omega⟩
    have hi' : i < l.length := by omega
    have hel : rdOf ByteArray.empty l (i : Int) = l[i] := by simp [rdOf, List.getD_eq_getElem?_getD, hi']
    rw [spec_MakeName.l0, if_pos (by omega), if_pos (by omega), hel]
    have hbad : (l[i].size < 1 ∨ 63 < l[i].size) → mkN l = (⟨#[]⟩, 2) := by
      intro h
      unfold mkN
      rw [if_neg (by omega), if_pos ⟨l[i], List.getElem_mem _, h⟩]
    by_cases h1 : (l[i].size : Int) < 1
    · rw [if_pos h1, hbad (.inl (by omega))]
    · rw [if_neg h1]
      by_cases h2 : (l[i].size : Int) > 63
      · rw [if_pos h2, hbad (.inr (by omega))]
      · rw [if_neg h2, w64 (by omega) (by omega)]
        refine ih k (i + 1) (by omega) (by omega) ?_
        rw [List.take_succ_eq_append_getElem hi']
        intro s hs
        rcases List.mem_append.1 hs with h | h
        · exact hg s h
        · obtain rfl := List.mem_singleton.1 h
          omega
theorem spec_MakeName_eq (l : List ByteArray) (hz : ∀ s ∈ l, s.size ≤ 1048576) (k : Nat) (hk : 200 ≤ k) : spec_MakeName.f k l = some (mkN l) := by
  unfold spec_MakeName.f
  by_cases h : 127 < l.length
  · rw [if_pos (by omega)]
    unfold mkN
    rw [if_pos h]
  · rw [if_neg (by omega)]
    exact spec_MakeName_l0 l (by omega) hz l.length k 0 (by omega) (by omega) (by simp)

end Go.Proofs.Ytpbmnokmpihnjaa.Pure
namespace Go.Proofs.Ytpbmnokmpihnjaa.Pure
open Go.RowKit Go.Proofs.Ytpbmnokmpihnjaa.F Go.Proofs.Ytpbmnokmpihnjaa.Base Go.Proofs.YtpbmnokmpihnjaaW.PrintWords Go.Proofs.YtpbmnokmpihnjaaW.PrintLast Go.Proofs.YtpbmnokmpihnjaaW.PrintMore
set_option linter.unusedVariables false
set_option linter.unusedSimpArgs false
-- base: BaseName
theorem spec_ReplaceTail_l1 (z : List ByteArray) (hz : z.length ≤ 300) : ∀ (d k i : Nat) (acc : List ByteArray), i + d = z.length → d + 300 < k → acc.length + d ≤ 1000 → (∀ s ∈ acc ++ z.drop i, s.size ≤ 1048576) → spec_ReplaceTail.l1 k z acc (i : Int) = some (mkN (acc ++ z.drop i)) := by
  intro d
  induction d with
  | zero =>
    intro k i acc hi hk ha hs
    obtain ⟨k, rfl⟩ : ∃ m, k = m + 1 := ⟨k - 1, by omega⟩
    rw [List.drop_of_length_le (by omega), List.append_nil] at hs ⊢
    rw [spec_ReplaceTail.l1, if_neg (by omega), spec_MakeName_eq acc hs k (by omega)]
    rfl
  | succ d ih =>
    intro k i acc hi hk ha hs
    obtain ⟨k, rfl⟩ : ∃ m, k = m + 1 := ⟨k - 1, by omega⟩
    have hi' : i < z.length := by omega
    have hel : rdOf ByteArray.empty z (i : Int) = z[i] := by simp [rdOf, List.getD_eq_getElem?_getD, hi']
    have e : acc ++ z.drop i = (acc ++ [z[i]]) ++ z.drop (i + 1) := by rw [List.drop_eq_getElem_cons hi']; simp
    rw [e] at hs ⊢
    rw [spec_ReplaceTail.l1, if_pos (by omega), if_pos (by omega), if_pos (by omega), hel, w64 (by omega) (by omega)]
    exact ih k (i + 1) (acc ++ [z[i]]) (by omega) (by omega) (by simp; omega) hs
theorem spec_ReplaceTail_l0 (x y z : List ByteArray) (hx : x.length ≤ 300) (hy : y.length ≤ x.length) (hz : z.length ≤ 300) : ∀ (d k i : Nat), i + d = x.length - y.length → d + 700 < k → (∀ s ∈ x.take (x.length - y.length) ++ z, s.size ≤ 1048576) → spec_ReplaceTail.l0 k x y z (x.take i) (i : Int) = some (mkN (x.take (x.length - y.length) ++ z)) := by
  intro d
  induction d with
  | zero =>
    intro k i hi hk hs
    obtain ⟨k, rfl⟩ : ∃ m, k = m + 1 := ⟨k - 1, by omega⟩
    obtain rfl : i = x.length - y.length := by omega
    rw [spec_ReplaceTail.l0, w64 (by omega) (by omega), if_neg (by omega)]
    have := spec_ReplaceTail_l1 z hz z.length k 0 (x.take (x.length - y.length)) (by omega) (by omega) (by simp; omega) (by simpa using hs)
    simpa using this
  | succ d ih =>
    intro k i hi hk hs
    obtain ⟨k, rfl⟩ : ∃ m, k = m + 1 := ⟨k - 1, by omega⟩
    have hi' : i < x.length := by omega
    have hel : rdOf ByteArray.empty x (i : Int) = x[i] := by simp [rdOf, List.getD_eq_getElem?_getD, hi']
    rw [spec_ReplaceTail.l0, w64 (x := (x.length : Int) - (y.length : Int)) (by omega) (by omega), if_pos (by omega), if_pos (by omega), if_pos (by omega), if_pos (by simp; omega), hel, w64 (by omega) (by omega), ← List.take_succ_eq_append_getElem hi']
    exact ih k (i + 1) (by omega) (by omega) hs
theorem spec_ReplaceTail_eq (a b c : ByteArray) (k : Nat) (hk : 1100010 ≤ k) : spec_ReplaceTail.f k a b c = some (tailN a b c) := by
  obtain ⟨k, rfl⟩ : ∃ m, k = m + 2 := ⟨k - 2, by omega⟩
  unfold spec_ReplaceTail.f tailN
  rw [spec_l01Split_eq a _ (by omega), spec_l01Split_eq b _ (by omega), spec_l01Split_eq c _ (by omega)]
  cases ha : names (L a) with
  | none => simp [res, spec_ReplaceTail.j0]
  | some x =>
    cases hb : names (L b) with
    | none => simp [res, spec_ReplaceTail.j0]
    | some y =>
      cases hc : names (L c) with
      | none => simp [res, spec_ReplaceTail.j0]
      | some z =>
        obtain ⟨gx, jx, lx⟩ := names_good ha
        obtain ⟨gy, jy, ly⟩ := names_good hb
        obtain ⟨gz, jz, lz⟩ := names_good hc
        have hlx := joinL_len_ge x
        have hly := joinL_len_ge y
        have hlz := joinL_len_ge z
        have hu : underN a b = underL x y := by unfold underN; rw [ha, hb]
        simp only [res, Option.bind_some, List.nil_append, if_true, Bool.not_true, Bool.false_eq_true, if_false]
        rw [spec_ReplaceTail.j0, if_neg (by simp), spec_IsUnder_eq a b _ (by omega), hu]
        simp only [Option.bind_some]
        cases hux : underL x y with
        | false => simp [spec_ReplaceTail.j1]
        | true =>
          have hle : y.length ≤ x.length := by unfold underL at hux; exact (of_decide_eq_true hux).1
          rw [if_pos rfl, spec_ReplaceTail.j1]
          by_cases hne : x.length = y.length
          · rw [if_pos (by rw [hne]; simp), if_neg (fun h => h.2 hne)]
          · rw [if_neg (by rw [beq_iff_eq]; omega), if_pos ⟨rfl, hne⟩, ← mkN_good ((gx.take _).append gz)]
            have := spec_ReplaceTail_l0 x y z (by omega) hle (by omega) (x.length - y.length) k 0 (by omega) (by omega) (fun s hs => by have := ((gx.take (x.length - y.length)).append gz) s hs; omega)
            simpa using this

end Go.Proofs.Ytpbmnokmpihnjaa.Pure
namespace Go.Proofs.Ytpbmnokmpihnjaa.Pure
open Go.RowKit Go.Proofs.Ytpbmnokmpihnjaa.F Go.Proofs.Ytpbmnokmpihnjaa.Base Go.Proofs.YtpbmnokmpihnjaaW.PrintWords Go.Proofs.YtpbmnokmpihnjaaW.PrintLast Go.Proofs.YtpbmnokmpihnjaaW.PrintMore
set_option linter.unusedVariables false
set_option linter.unusedSimpArgs false
-- base: BaseName
theorem FnTail_core (a b c : ByteArray) (k : Nat) (hk : 1100010 ≤ k) : laws_FnTail.j0 (k + 1) a b c (tailN a b c).2 (tailN a b c).1 false = some true := by
  rw [laws_FnTail.j0, if_neg (by simp)]
  by_cases h0 : (tailN a b c).2 = 0
  case neg => rw [if_neg h0]
  rw [if_pos h0]
  unfold tailN at h0 ⊢
  cases hx : names (L a) with
  | none => rw [hx] at h0; simp at h0
  | some x =>
    cases hy : names (L b) with
    | none => rw [hx, hy] at h0; simp at h0
    | some y =>
      cases hz : names (L c) with
      | none => rw [hx, hy, hz] at h0; simp at h0
      | some z =>
        rw [hx, hy, hz] at h0
        simp only at h0 ⊢
        by_cases hu : underL x y = true ∧ x.length ≠ y.length
        case neg => rw [if_neg hu] at h0; simp at h0
        rw [if_pos hu] at h0 ⊢
        obtain ⟨gx, jx, lx⟩ := names_good hx
        obtain ⟨gy, jy, ly⟩ := names_good hy
        obtain ⟨gz, jz, lz⟩ := names_good hz
        obtain ⟨hu1, hu2⟩ := hu
        unfold underL at hu1
        obtain ⟨hl, hf⟩ := of_decide_eq_true hu1
        obtain ⟨d, hd⟩ : ∃ d, x.length - y.length = d := ⟨_, rfl⟩
        rw [hd] at h0 hf ⊢
        have gG : GoodL (x.take d ++ z) := (gx.take d).append gz
        unfold mkG at h0 ⊢
        by_cases h255 : 255 < (joinL (x.take d ++ z)).length + 1
        · rw [if_pos h255] at h0; simp at h0
        rw [if_neg h255]
        have hG : names (L (join (x.take d ++ z))) = some (x.take d ++ z) := by rw [L_join]; exact names_of_join gG (by omega)
        have lt : (x.take d).length = d := by rw [List.length_take]; omega
        have lG : (x.take d ++ z).length = d + z.length := by rw [List.length_append, lt]
        have hUz : underL (x.take d ++ z) z = true := by
          unfold underL
          rw [lG, Nat.add_sub_cancel, List.drop_left' lt]
          exact decide_eq_true ⟨by omega, rfl⟩
        have hmap : (x.take d ++ y).map foldB = x.map foldB := by rw [List.map_append, ← hf, ← List.map_append, List.take_append_drop]
        have gB : GoodL (x.take d ++ y) := (gx.take d).append gy
        have lB : (joinL (x.take d ++ y)).length = (joinL x).length := by rw [← joinL_len_fold, hmap, joinL_len_fold]
        have hB : names (L (join (x.take d ++ y))) = some (x.take d ++ y) := by rw [L_join]; exact names_of_join gB (by omega)
        have eT : tailN (join (x.take d ++ z)) c b = (join (x.take d ++ y), 0) := by
          unfold tailN
          rw [hG, hz, hy]
          simp only
          rw [if_pos ⟨hUz, by omega⟩, lG, Nat.add_sub_cancel, List.take_left' lt]
          unfold mkG
          rw [if_neg (by omega)]
        have eU : underN (join (x.take d ++ z)) c = true := by
          unfold underN
          rw [hG, hz]
          exact hUz
        have cx := names_count hx
        have cy := names_count hy
        have cz := names_count hz
        have cG := names_count hG
        simp only
        rw [impl_ReplaceTail_eq _ _ _ k (by omega), eT, impl_IsUnder_eq _ _ k (by omega), eU]
        simp only [Option.bind_some, if_true]
        rw [impl_Labels_eq _ k (by omega), impl_Labels_eq _ k (by omega), impl_Labels_eq _ k (by omega), impl_Labels_eq _ k (by omega), hG, hz, hx, hy]
        simp only [Option.bind_some, Option.getD_some]
        rw [w64 (by omega) (by omega), w64 (by omega) (by omega), if_pos (by omega), impl_SameName_eq _ _ k (by omega), sameN_iff hB hx, hmap]
        simp
theorem FnTail : laws_FnTail.Pure := by
  intro l0 _ _ _
  refine ⟨1100010 + 1, ?_⟩
  unfold laws_FnTail.f
  by_cases h : (l0.length : Int) > 1048576
  · rw [if_pos h]
  · rw [if_neg h]
    obtain ⟨a, b, c, e⟩ := spec_DrawReplaceTail_eq l0 (1100010 + 1) (by omega) (by omega)
    rw [e]
    simp only [Option.bind_some]
    rw [spec_ReplaceTail_eq a b c _ (by omega), impl_ReplaceTail_eq a b c _ (by omega)]
    simp only [Option.bind_some, if_true, bne_self_eq_false]
    exact FnTail_core a b c 1100010 (Nat.le_refl _)

end Go.Proofs.Ytpbmnokmpihnjaa.Pure
namespace Go.Proofs.Ytpbmnokmpihnjaa.fnTail
open Go.ChangeShapes Go.WideShapes Go.ChangeAt Go.RowKit
open Go.ChangeMaps (open_string shut_string)
set_option linter.unusedVariables false
theorem own : ownKnob Try.prog.godebug = none := by kernel_rfl
theorem laidOut : laidOutB Try.prog = true := by kernel_rfl
def IsRow (k : IntKind) (w : World) (a : Option Addr) (len cap : Nat) (zs : List Int) : Prop :=
  (a = none ∧ len = 0 ∧ cap = 0 ∧ zs = []) ∨
  ∃ x, a = some x ∧ len ≤ cap ∧ cap ≤ maxLen ∧ zs.length = cap ∧ (∀ i, i < zs.length → w.cell? (x.add i) = some (.int k (zs.getD i 0))) ∧ ∀ n ∈ zs, (Lit.int k n).wf = true
set_option maxRecDepth 100000 in
theorem lifted (os : Os) (started : os.Started) (H : Type) (enc : TypeId × Value → H) :
    ReturnsInHanded {} Try.checked os 8 .any (Rows.fnTailSpec.pre6 enc Try.prog Try.f8 Rows.fnTailRow.domain false) (Rows.fnTailSpec.post enc Try.prog Try.f8 false true false false) := by
  refine returnsInHanded_of_change_sized (C := Try.checked) own started (by kernel_rfl) Try.func8
    (ChangeSpec.witness6 (enc := enc) (C := Try.checked) false ⟨#[], #[.slice none 0 0], []⟩ 8 (by kernel_rfl) (by kernel_rfl) (by kernel_rfl) (by kernel_rfl)) ?_
  intro W base args ds gs before hval0 hW hcnd hsz0 _
  have hsz : (DataW.weightsEach Try.prog (Try.f8.params.toList ++ Rows.fnTailSpec.plain.varTypes Try.prog) (ds ++ gs)).all (· ≤ reachBytes) = true := hsz0
  have hval : ∀ (j : Nat) t v, Try.f8.params[j]? = some t → args[j]? = some v → Value.okWide Try.prog W .any base t v := hval0
  have hW' := hW
  obtain ⟨p, q, hA0, hV, rfl, hfz, hnd⟩ := hW
  have hA : DataW.TrodAll enc Try.prog W 0 (fun _ => true) true Try.f8.params.toList args.toList ds p := hA0
  rw [Try.params8] at hA hval hsz
  obtain ⟨v0, vs0, d0, ds0, p0, q0, hargs, rfl, rfl, h0, r0⟩ := trodAll_cons hA
  obtain ⟨rfl, rfl, rfl⟩ := trodAll_nil r0
  obtain rfl : args = #[v0] := by cases args; simp_all
  obtain ⟨rfl, rfl⟩ := trodVars_none hV
  obtain ⟨a0, len0, cap0, rfl⟩ := okWide_slice Try.underlying30 (hval 0 30 v0 rfl rfl)
  have k0 := h0
  have lt0 : ∀ x ∈ p0, x.block < W.heap.size := by obtain ⟨m, hm⟩ := k0; exact DataW.trod_lt m _ _ _ hm
  obtain ⟨z0, w0⟩ : ∃ zs, IsRow .u8 W a0 len0 cap0 zs := by
    obtain ⟨fuel, hf⟩ := h0
    rcases open_ints Try.underlying30 Try.underlying5 (by kernel_rfl) hf with ⟨hcs, _⟩ | ⟨x, l, c, zs, hcs, _, hl, hm, hz, _, hcell, hwz⟩
    · simp [Value.cells] at hcs
      obtain ⟨rfl, rfl, rfl⟩ := hcs
      exact ⟨[], .inl ⟨rfl, rfl, rfl, rfl⟩⟩
    · simp [Value.cells] at hcs
      obtain ⟨rfl, rfl, rfl⟩ := hcs
      exact ⟨zs, .inr ⟨_, rfl, hl, hm, by simpa using hz, hcell, hwz⟩⟩
  have y0 : len0 * 1 ≤ 140737488351232 := Go.Proofs.YtpbmnokmpihnjaaW.PrintWords.sized_ints hsz (j := 0) (t := 30) rfl rfl Try.underlying30 Try.underlying5 (by kernel_rfl) (by kernel_rfl) h0
  clear hA0 hval0 hsz0 hsz
  refine (F.laws_FnTail.walk Pure.FnTail a0 len0 cap0 z0 W w0 y0).mono fun e W' ⟨he, bel⟩ => ?_
  subst he
  exact ⟨_, rfl, _, _, _, [], _, [], hW', trodAll_mk1 (shut_bool Try.underlying4 _), (trodAll_cons_mk (Below.trod laidOut (by kernel_rfl) (of_decide_eq_true (by kernel_rfl)) k0 bel lt0) trodAll_mk0), rfl, bel.frame _, fun h => by cases h⟩
theorem over : Rows.fnTailRow.holds Try.pinned (OpenSpec.ofChange Rows.fnTailSpec) :=
  OpenClaim.holds_of_wide 8 Try.f8 rfl rfl rfl rfl rfl rfl rfl ⟨rfl, rfl, rfl, rfl, rfl⟩ rfl rfl rfl rfl rfl (by kernel_rfl) Try.func8 (by kernel_rfl)
    (of_decide_eq_true (by kernel_rfl)) (by unfold Func.isWrapper; first | (rw [if_pos (by decide +kernel)]; kernel_rfl) | (rw [if_neg (by decide +kernel)]; exact ⟨rfl, rfl⟩))
    (fun os started H enc _ => lifted os started H enc)
theorem proved : Rows.FnTailSaid := over
#print axioms proved
end Go.Proofs.Ytpbmnokmpihnjaa.fnTail
namespace Go.Proofs.Ytpbmnokmpihnjaa
/-- The row, under a short name, for the claim. -/
theorem fnTail_holds : Rows.FnTailSaid := fnTail.proved
end Go.Proofs.Ytpbmnokmpihnjaa
