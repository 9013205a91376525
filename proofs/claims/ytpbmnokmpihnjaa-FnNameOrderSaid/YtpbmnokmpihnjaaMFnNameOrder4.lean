/- Part 4 of 4 of the proof of FnNameOrder: what each Go function on its way computes, that the Go code does just this, and what the law says of it. No condition beyond the statement's own. -/
import Derived.Lib.Bytes
import Derived.Lib.Bytealg
import Derived.Test.YtpbmnokmpihnjaaRows
import Derived.WalkKit
import Derived.ProofKit
import Derived.OpenShut
import Derived.ShutString
import Derived.ChangeOld
import Derived.Below
import Derived.SizedLaws
import Derived.Test.YtpbmnokmpihnjaaMFnNameOrder3
namespace Go.Proofs.Ytpbmnokmpihnjaa.F
open Go Go.Shelf Go.RowKit Go.Proofs.YtpbmnokmpihnjaaW.PrintWords Go.Proofs.YtpbmnokmpihnjaaW.PrintLast Go.Proofs.YtpbmnokmpihnjaaW.PrintMore
attribute [local go_sem] max2_int min2_int max_two min_two max_three min_three max_four min_four   -- for this text's walks alone
set_option linter.unusedVariables false
set_option linter.unusedSimpArgs false

/-! ### laws_FnNameOrder: function 7 -/
mutual
def laws_FnNameOrder.j0 : Nat → List Int → List Int → Bool → Option (Bool)
  | 0, _, _, _ => none
  | k + 1, x0, x1, x21 => if x21 = true then (some true) else ((spec_DrawCompareNames.f k x0).bind fun bt101 => ((spec_DrawCompareNames.f k x1).bind fun bt103 => ((spec_NameOK.f k bt101.1).bind fun t105 => (if t105 = true then ((spec_NameOK.f k bt101.2).bind fun t106 => (if t106 = true then ((spec_NameOK.f k bt103.1).bind fun t107 => (laws_FnNameOrder.j1 k bt101.1 bt101.2 bt103.1 (!t107))) else (laws_FnNameOrder.j1 k bt101.1 bt101.2 bt103.1 true))) else (laws_FnNameOrder.j1 k bt101.1 bt101.2 bt103.1 true)))))
def laws_FnNameOrder.j1 : Nat → ByteArray → ByteArray → ByteArray → Bool → Option (Bool)
  | 0, _, _, _, _ => none
  | k + 1, x5, x6, x7, x44 => if x44 = true then (some true) else ((impl_CompareNames.f k x5 x6).bind fun t108 => ((impl_CompareNames.f k x6 x7).bind fun t109 => ((impl_CompareNames.f k x5 x7).bind fun t110 => ((impl_CompareNames.f k x6 x5).bind fun t111 => (if t108 = (wrap64 (-t111)) then ((impl_SameName.f k x5 x6).bind fun t112 => (if ((t108 == 0) != t112) = true then (laws_FnNameOrder.j2 k x5 t108 t109 t110 true) else (if t108 < (-1) then (laws_FnNameOrder.j2 k x5 t108 t109 t110 true) else (laws_FnNameOrder.j2 k x5 t108 t109 t110 (decide (t108 > 1)))))) else (laws_FnNameOrder.j2 k x5 t108 t109 t110 true))))))
def laws_FnNameOrder.j2 : Nat → ByteArray → Int → Int → Int → Bool → Option (Bool)
  | 0, _, _, _, _, _ => none
  | k + 1, x5, x9, x10, x11, x75 => if x75 = true then (some false) else (if x9 ≤ 0 then (if x10 ≤ 0 then (if x11 > 0 then (laws_FnNameOrder.j3 k x5 true) else (if x9 ≥ 0 then (if x10 ≥ 0 then (laws_FnNameOrder.j3 k x5 (decide (x11 < 0))) else (laws_FnNameOrder.j3 k x5 false)) else (laws_FnNameOrder.j3 k x5 false))) else (if x9 ≥ 0 then (if x10 ≥ 0 then (laws_FnNameOrder.j3 k x5 (decide (x11 < 0))) else (laws_FnNameOrder.j3 k x5 false)) else (laws_FnNameOrder.j3 k x5 false))) else (if x9 ≥ 0 then (if x10 ≥ 0 then (laws_FnNameOrder.j3 k x5 (decide (x11 < 0))) else (laws_FnNameOrder.j3 k x5 false)) else (laws_FnNameOrder.j3 k x5 false)))
def laws_FnNameOrder.j3 : Nat → ByteArray → Bool → Option (Bool)
  | 0, _, _ => none
  | k + 1, x5, x97 => if x97 = true then (some false) else ((impl_Ancestor.f k x5 1).bind fun bt113 => (if x5.toList = ([0] : List UInt8) then (some (bt113.2 == 32)) else (if bt113.2 = 0 then ((impl_CompareNames.f k bt113.1 x5).bind fun t115 => (if t115 = (-1) then ((impl_IsUnder.f k x5 bt113.1).bind fun t116 => (if t116 = true then ((impl_IsUnder.f k bt113.1 x5).bind fun t117 => (some (!t117))) else (some false))) else (some false))) else (some false))))
end
def laws_FnNameOrder.f (k : Nat) (l0 : List Int) (l1 : List Int) : Option (Bool) := if (l0.length : Int) > 1048576 then (laws_FnNameOrder.j0 k l0 l1 true) else (laws_FnNameOrder.j0 k l0 l1 (decide ((l1.length : Int) > 1048576)))
theorem laws_FnNameOrder.mono_l : ∀ k, (∀ y0 y1 y2, LeO (laws_FnNameOrder.j0 k y0 y1 y2) (laws_FnNameOrder.j0 (k + 1) y0 y1 y2)) ∧ (∀ y0 y1 y2 y3, LeO (laws_FnNameOrder.j1 k y0 y1 y2 y3) (laws_FnNameOrder.j1 (k + 1) y0 y1 y2 y3)) ∧ (∀ y0 y1 y2 y3 y4, LeO (laws_FnNameOrder.j2 k y0 y1 y2 y3 y4) (laws_FnNameOrder.j2 (k + 1) y0 y1 y2 y3 y4)) ∧ (∀ y0 y1, LeO (laws_FnNameOrder.j3 k y0 y1) (laws_FnNameOrder.j3 (k + 1) y0 y1))
  | 0 => ⟨fun _ _ _ r h => by simp [laws_FnNameOrder.j0] at h, fun _ _ _ _ r h => by simp [laws_FnNameOrder.j1] at h, fun _ _ _ _ _ r h => by simp [laws_FnNameOrder.j2] at h, fun _ _ r h => by simp [laws_FnNameOrder.j3] at h⟩
  | k + 1 => by
    obtain ⟨ih0, ih1, ih2, ih3⟩ := laws_FnNameOrder.mono_l k
    refine ⟨?_, ?_, ?_, ?_⟩
    · intro y0 y1 y2
      unfold laws_FnNameOrder.j0
      repeat' first
      | (with_reducible exact ih0 _ _ _)
      | (with_reducible exact ih1 _ _ _ _)
      | (with_reducible exact ih2 _ _ _ _ _)
      | (with_reducible exact ih3 _ _)
      | (with_reducible exact impl_Ancestor.mono _ _ _)
      | (with_reducible exact impl_CompareNames.mono _ _ _)
      | (with_reducible exact impl_IsUnder.mono _ _ _)
      | (with_reducible exact impl_SameName.mono _ _ _)
      | (with_reducible exact spec_DrawCompareNames.mono _ _)
      | (with_reducible exact spec_NameOK.mono _ _)
      | (with_reducible exact LeO.refl _)
      | (with_reducible exact LeO.none _)
      | (with_reducible refine LeO.ite ?_ ?_)
      | (with_reducible refine LeO.bind ?_ (fun _ => ?_))
      | exact ih0 _ _ _
      | exact ih1 _ _ _ _
      | exact ih2 _ _ _ _ _
      | exact ih3 _ _
      | exact impl_Ancestor.mono _ _ _
      | exact impl_CompareNames.mono _ _ _
      | exact impl_IsUnder.mono _ _ _
      | exact impl_SameName.mono _ _ _
      | exact spec_DrawCompareNames.mono _ _
      | exact spec_NameOK.mono _ _
      | exact LeO.none _
      | refine LeO.ite ?_ ?_
      | refine LeO.bind ?_ (fun _ => ?_)
    · intro y0 y1 y2 y3
      unfold laws_FnNameOrder.j1
      repeat' first
      | (with_reducible exact ih0 _ _ _)
      | (with_reducible exact ih1 _ _ _ _)
      | (with_reducible exact ih2 _ _ _ _ _)
      | (with_reducible exact ih3 _ _)
      | (with_reducible exact impl_Ancestor.mono _ _ _)
      | (with_reducible exact impl_CompareNames.mono _ _ _)
      | (with_reducible exact impl_IsUnder.mono _ _ _)
      | (with_reducible exact impl_SameName.mono _ _ _)
      | (with_reducible exact spec_DrawCompareNames.mono _ _)
      | (with_reducible exact spec_NameOK.mono _ _)
      | (with_reducible exact LeO.refl _)
      | (with_reducible exact LeO.none _)
      | (with_reducible refine LeO.ite ?_ ?_)
      | (with_reducible refine LeO.bind ?_ (fun _ => ?_))
      | exact ih0 _ _ _
      | exact ih1 _ _ _ _
      | exact ih2 _ _ _ _ _
      | exact ih3 _ _
      | exact impl_Ancestor.mono _ _ _
      | exact impl_CompareNames.mono _ _ _
      | exact impl_IsUnder.mono _ _ _
      | exact impl_SameName.mono _ _ _
      | exact spec_DrawCompareNames.mono _ _
      | exact spec_NameOK.mono _ _
      | exact LeO.none _
      | refine LeO.ite ?_ ?_
      | refine LeO.bind ?_ (fun _ => ?_)
    · intro y0 y1 y2 y3 y4
      unfold laws_FnNameOrder.j2
      repeat' first
      | (with_reducible exact ih0 _ _ _)
      | (with_reducible exact ih1 _ _ _ _)
      | (with_reducible exact ih2 _ _ _ _ _)
      | (with_reducible exact ih3 _ _)
      | (with_reducible exact impl_Ancestor.mono _ _ _)
      | (with_reducible exact impl_CompareNames.mono _ _ _)
      | (with_reducible exact impl_IsUnder.mono _ _ _)
      | (with_reducible exact impl_SameName.mono _ _ _)
      | (with_reducible exact spec_DrawCompareNames.mono _ _)
      | (with_reducible exact spec_NameOK.mono _ _)
      | (with_reducible exact LeO.refl _)
      | (with_reducible exact LeO.none _)
      | (with_reducible refine LeO.ite ?_ ?_)
      | (with_reducible refine LeO.bind ?_ (fun _ => ?_))
      | exact ih0 _ _ _
      | exact ih1 _ _ _ _
      | exact ih2 _ _ _ _ _
      | exact ih3 _ _
      | exact impl_Ancestor.mono _ _ _
      | exact impl_CompareNames.mono _ _ _
      | exact impl_IsUnder.mono _ _ _
      | exact impl_SameName.mono _ _ _
      | exact spec_DrawCompareNames.mono _ _
      | exact spec_NameOK.mono _ _
      | exact LeO.none _
      | refine LeO.ite ?_ ?_
      | refine LeO.bind ?_ (fun _ => ?_)
    · intro y0 y1
      unfold laws_FnNameOrder.j3
      repeat' first
      | (with_reducible exact ih0 _ _ _)
      | (with_reducible exact ih1 _ _ _ _)
      | (with_reducible exact ih2 _ _ _ _ _)
      | (with_reducible exact ih3 _ _)
      | (with_reducible exact impl_Ancestor.mono _ _ _)
      | (with_reducible exact impl_CompareNames.mono _ _ _)
      | (with_reducible exact impl_IsUnder.mono _ _ _)
      | (with_reducible exact impl_SameName.mono _ _ _)
      | (with_reducible exact spec_DrawCompareNames.mono _ _)
      | (with_reducible exact spec_NameOK.mono _ _)
      | (with_reducible exact LeO.refl _)
      | (with_reducible exact LeO.none _)
      | (with_reducible refine LeO.ite ?_ ?_)
      | (with_reducible refine LeO.bind ?_ (fun _ => ?_))
      | exact ih0 _ _ _
      | exact ih1 _ _ _ _
      | exact ih2 _ _ _ _ _
      | exact ih3 _ _
      | exact impl_Ancestor.mono _ _ _
      | exact impl_CompareNames.mono _ _ _
      | exact impl_IsUnder.mono _ _ _
      | exact impl_SameName.mono _ _ _
      | exact spec_DrawCompareNames.mono _ _
      | exact spec_NameOK.mono _ _
      | exact LeO.none _
      | refine LeO.ite ?_ ?_
      | refine LeO.bind ?_ (fun _ => ?_)
theorem laws_FnNameOrder.mono : ∀ a0 a1 k, LeO (laws_FnNameOrder.f k a0 a1) (laws_FnNameOrder.f (k + 1) a0 a1) := by
  intro a0 a1 k
  obtain ⟨ih0, ih1, ih2, ih3⟩ := laws_FnNameOrder.mono_l k
  unfold laws_FnNameOrder.f
  repeat' first
      | (with_reducible exact ih0 _ _ _)
      | (with_reducible exact ih1 _ _ _ _)
      | (with_reducible exact ih2 _ _ _ _ _)
      | (with_reducible exact ih3 _ _)
      | (with_reducible exact impl_Ancestor.mono _ _ _)
      | (with_reducible exact impl_CompareNames.mono _ _ _)
      | (with_reducible exact impl_IsUnder.mono _ _ _)
      | (with_reducible exact impl_SameName.mono _ _ _)
      | (with_reducible exact spec_DrawCompareNames.mono _ _)
      | (with_reducible exact spec_NameOK.mono _ _)
      | (with_reducible exact LeO.refl _)
      | (with_reducible exact LeO.none _)
      | (with_reducible refine LeO.ite ?_ ?_)
      | (with_reducible refine LeO.bind ?_ (fun _ => ?_))
      | exact ih0 _ _ _
      | exact ih1 _ _ _ _
      | exact ih2 _ _ _ _ _
      | exact ih3 _ _
      | exact impl_Ancestor.mono _ _ _
      | exact impl_CompareNames.mono _ _ _
      | exact impl_IsUnder.mono _ _ _
      | exact impl_SameName.mono _ _ _
      | exact spec_DrawCompareNames.mono _ _
      | exact spec_NameOK.mono _ _
      | exact LeO.none _
      | refine LeO.ite ?_ ?_
      | refine LeO.bind ?_ (fun _ => ?_)
set_option maxHeartbeats 8000000 in
set_option maxRecDepth 100000 in
theorem laws_FnNameOrder.calls (k : Nat) (A0 : Option Addr) (c0 : Nat) (l0 : List Int) (A1 : Option Addr) (c1 : Nat) (l1 : List Int) (r : Bool) (w : World) (hr0 : Kd.C (Kd.int .u8) w A0 l0.length l0) (hc0 : l0.length ≤ c0) (hr1 : Kd.C (Kd.int .u8) w A1 l1.length l1) (hc1 : l1.length ≤ c1) (h : laws_FnNameOrder.f k l0 l1 = some r) :
    Calls Try.prog 7 #[.slice A0 l0.length c0, .slice A1 l1.length c1] w fun e w' => e = .returned (.bool r) ∧ Below w.heap.size w w' := by
  have HR0 := Aside0.mk hr0
  have HC0 := Aside0.mk hc0
  clear hr0 hc0
  have HR1 := Aside0.mk hr1
  have HC1 := Aside0.mk hc1
  clear hr1 hc1
  have HB := Aside0.mk (Below.refl w.heap.size w)
  have H : (if (l0.length : Int) > 1048576 then (laws_FnNameOrder.j0 k l0 l1 true) else (laws_FnNameOrder.j0 k l0 l1 (decide ((l1.length : Int) > 1048576)))) = some r := h
  clear h
  have HC3 := Aside0.mk H
  clear H
  go_enter Try.func7, Try.ntmps7
  go_upto_region 1 with (fail)
  go_cut [21] (fun v21 wc => ∃ (kq : Nat) (x21_2 : Bool), v21 = .bool x21_2 ∧ Aside0 (laws_FnNameOrder.j0 kq l0 l1 x21_2 = some r) ∧ Aside0 (kq ≤ k) ∧ Aside0 (Below w.heap.size w wc))
  case first =>
    have H := HC3.out
    clear HC3
    by_cases c4 : (l0.length : Int) > 1048576
    · rw [if_pos c4] at H
      have c4b0 : decide (1048576 < (l0.length : Int)) = true := decide_eq_true c4
      have c4b1 : decide (1048576 < l0.length) = true := decide_eq_true (by omega)
      clear c4
      (first | rw [c4b0] | (simp only [i64_w, i32_w]; rw [c4b0]) | skip)
      have H' := Aside0.mk H
      clear H
      go_wp2
      go_meet
      case rel => exact ⟨_, (true), (by first | rfl | (simp; done) | (simp [*]; done)), H', ⟨by first | omega | exact Nat.le_refl _⟩, ⟨by repeat (first | (with_reducible first | exact HB.out | apply below_alloc | apply pw_below_drewN | apply below_drew1) | exact HB.out)⟩⟩
    · rw [if_neg c4] at H
      have c4b0 : decide (1048576 < (l0.length : Int)) = false := decide_eq_false c4
      have c4b1 : decide (1048576 < l0.length) = false := decide_eq_false (by omega)
      clear c4
      (first | rw [c4b0] | (simp only [i64_w, i32_w]; rw [c4b0]) | skip)
      have H' := Aside0.mk H
      clear H
      go_wp2
      go_meet
      case rel => exact ⟨_, (decide ((l1.length : Int) > 1048576)), (by first | rfl | (simp; done) | (simp [*]; done)), H', ⟨by first | omega | exact Nat.le_refl _⟩, ⟨by repeat (first | (with_reducible first | exact HB.out | apply below_alloc | apply pw_below_drewN | apply below_drew1) | exact HB.out)⟩⟩
  case rest =>
    clear HC3
    try clear c1
    try clear p2
    try clear c4
    try clear c4b0
    try clear c4b1
    obtain ⟨kq, x21_2, rfl, HA, HJ2, HB⟩ := hcut
    cases kq with
    | zero => exact absurd HA.out (by simp [laws_FnNameOrder.j0])
    | succ kj2 =>
      have H := HA.out
      clear HA
      simp only [laws_FnNameOrder.j0] at H
      by_cases c5 : x21_2 = true
      · subst c5
        have H1 : (some true) = some r := by rw [if_pos rfl] at H; exact H
        clear H
        have H := H1
        clear H1
        obtain rfl := Option.some.inj H
        go_wp2
        go_ret
        exact ⟨by first | rfl | (simp [errW_none, errW_some] <;> rfl) | (simp [*, errW_none, errW_some] <;> rfl), by repeat (first | (with_reducible first | exact HB.out | apply below_alloc | apply pw_below_drewN | apply below_drew1) | exact HB.out)⟩
      · replace c5 := Bool.eq_false_iff.mpr c5
        subst c5
        have H1 : ((spec_DrawCompareNames.f kj2 l0).bind fun bt101 => ((spec_DrawCompareNames.f kj2 l1).bind fun bt103 => ((spec_NameOK.f kj2 bt101.1).bind fun t105 => (if t105 = true then ((spec_NameOK.f kj2 bt101.2).bind fun t106 => (if t106 = true then ((spec_NameOK.f kj2 bt103.1).bind fun t107 => (laws_FnNameOrder.j1 kj2 bt101.1 bt101.2 bt103.1 (!t107))) else (laws_FnNameOrder.j1 kj2 bt101.1 bt101.2 bt103.1 true))) else (laws_FnNameOrder.j1 kj2 bt101.1 bt101.2 bt103.1 true))))) = some r := by rw [if_neg (show ¬ (false = true) by decide)] at H; exact H
        clear H
        have H := H1
        clear H1
        replace H := Option.bind_eq_some_iff.mp H
        obtain ⟨⟨t101, t102⟩, A60, H⟩ := H
        replace H : ((spec_DrawCompareNames.f kj2 l1).bind fun bt103 => ((spec_NameOK.f kj2 t101).bind fun t105 => (if t105 = true then ((spec_NameOK.f kj2 t102).bind fun t106 => (if t106 = true then ((spec_NameOK.f kj2 bt103.1).bind fun t107 => (laws_FnNameOrder.j1 kj2 t101 t102 bt103.1 (!t107))) else (laws_FnNameOrder.j1 kj2 t101 t102 bt103.1 true))) else (laws_FnNameOrder.j1 kj2 t101 t102 bt103.1 true)))) = some r := H
        have A6 := Aside0.mk A60
        clear A60
        replace H := Option.bind_eq_some_iff.mp H
        obtain ⟨⟨t103, t104⟩, A70, H⟩ := H
        replace H : ((spec_NameOK.f kj2 t101).bind fun t105 => (if t105 = true then ((spec_NameOK.f kj2 t102).bind fun t106 => (if t106 = true then ((spec_NameOK.f kj2 t103).bind fun t107 => (laws_FnNameOrder.j1 kj2 t101 t102 t103 (!t107))) else (laws_FnNameOrder.j1 kj2 t101 t102 t103 true))) else (laws_FnNameOrder.j1 kj2 t101 t102 t103 true))) = some r := H
        have A7 := Aside0.mk A70
        clear A70
        have HC8 := Aside0.mk H
        clear H
        go_upto_region 5 with (first | ((with_reducible refine gate_callee (f := 18) rfl ?_); refine goesL_ (some 24) rfl rfl Try.func18 (by kernel_rfl) rfl #[.slice A0 l0.length c0] rfl (by (try simp only [List.map_toArray, List.map_cons, List.map_nil]); first | done | rfl | (simp only [List.length_drop, List.length_take]; rfl)) ?_; (with_reducible refine (spec_DrawCompareNames.calls kj2 _ _ l0 t101 t102 _ ?side1 ?side2 A6.out).mono ?_); (case side1 => repeat (first | exact (Kd.C_below HR0.out HB.out) | (with_reducible refine Kd.C_alloc ?_ _) | (with_reducible refine Kd.C_drewN ?_ _) | (with_reducible refine Kd.C_drew ?_))); (case side2 => exact HC0.out); rintro e w9 ⟨rfl, hb⟩; refine ⟨_, rfl, ?_⟩; have n0_ := Aside0.mk (below_step (by repeat (first | (with_reducible first | exact HB.out | apply below_alloc | apply pw_below_drewN | apply below_drew1) | exact HB.out)) hb); clear HB; have HB := n0_; clear n0_; (try clear hb); (try clear hb2); (try clear hk); (try clear hi)) | ((with_reducible refine gate_callee (f := 18) rfl ?_); refine goesL_ (some 29) rfl rfl Try.func18 (by kernel_rfl) rfl #[.slice A1 l1.length c1] rfl (by (try simp only [List.map_toArray, List.map_cons, List.map_nil]); first | done | rfl | (simp only [List.length_drop, List.length_take]; rfl)) ?_; (with_reducible refine (spec_DrawCompareNames.calls kj2 _ _ l1 t103 t104 _ ?side1 ?side2 A7.out).mono ?_); (case side1 => repeat (first | exact (Kd.C_below HR1.out HB.out) | (with_reducible refine Kd.C_alloc ?_ _) | (with_reducible refine Kd.C_drewN ?_ _) | (with_reducible refine Kd.C_drew ?_))); (case side2 => exact HC1.out); rintro e w10 ⟨rfl, hb⟩; refine ⟨_, rfl, ?_⟩; have n0_ := Aside0.mk (below_step (by repeat (first | (with_reducible first | exact HB.out | apply below_alloc | apply pw_below_drewN | apply below_drew1) | exact HB.out)) hb); clear HB; have HB := n0_; clear n0_; (try clear hb); (try clear hb2); (try clear hk); (try clear hi)))
        (try simp only [Act.put, List.setIfInBounds_toArray, List.set_cons_zero, List.set_cons_succ])
        go_cut [44] (fun v44 wc => ∃ (kq : Nat) (x44_7 : Bool), v44 = .bool x44_7 ∧ Aside0 (laws_FnNameOrder.j1 kq t101 t102 t103 x44_7 = some r) ∧ Aside0 (kq ≤ kj2) ∧ Aside0 (Below w.heap.size w wc))
        case first =>
          have H := HC8.out
          clear HC8
          replace H := Option.bind_eq_some_iff.mp H
          obtain ⟨t105, A110, H⟩ := H
          replace H : (if t105 = true then ((spec_NameOK.f kj2 t102).bind fun t106 => (if t106 = true then ((spec_NameOK.f kj2 t103).bind fun t107 => (laws_FnNameOrder.j1 kj2 t101 t102 t103 (!t107))) else (laws_FnNameOrder.j1 kj2 t101 t102 t103 true))) else (laws_FnNameOrder.j1 kj2 t101 t102 t103 true)) = some r := H
          have A11 := Aside0.mk A110
          clear A110
          by_cases c12 : t105 = true
          · subst c12
            have H1 : ((spec_NameOK.f kj2 t102).bind fun t106 => (if t106 = true then ((spec_NameOK.f kj2 t103).bind fun t107 => (laws_FnNameOrder.j1 kj2 t101 t102 t103 (!t107))) else (laws_FnNameOrder.j1 kj2 t101 t102 t103 true))) = some r := by rw [if_pos rfl] at H; exact H
            clear H
            have H := H1
            clear H1
            replace H := Option.bind_eq_some_iff.mp H
            obtain ⟨t106, A130, H⟩ := H
            replace H : (if t106 = true then ((spec_NameOK.f kj2 t103).bind fun t107 => (laws_FnNameOrder.j1 kj2 t101 t102 t103 (!t107))) else (laws_FnNameOrder.j1 kj2 t101 t102 t103 true)) = some r := H
            have A13 := Aside0.mk A130
            clear A130
            by_cases c14 : t106 = true
            · subst c14
              have H1 : ((spec_NameOK.f kj2 t103).bind fun t107 => (laws_FnNameOrder.j1 kj2 t101 t102 t103 (!t107))) = some r := by rw [if_pos rfl] at H; exact H
              clear H
              have H := H1
              clear H1
              replace H := Option.bind_eq_some_iff.mp H
              obtain ⟨t107, A150, H⟩ := H
              replace H : (laws_FnNameOrder.j1 kj2 t101 t102 t103 (!t107)) = some r := H
              have A15 := Aside0.mk A150
              clear A150
              have H' := Aside0.mk H
              clear H
              go_wp2_with (first | ((with_reducible refine gate_callee (f := 19) rfl ?_); refine goesL_ (some 33) rfl rfl Try.func19 (by kernel_rfl) rfl #[.string t101] rfl (by (try simp only [List.map_toArray, List.map_cons, List.map_nil]); first | done | rfl | (simp only [List.length_drop, List.length_take]; rfl)) ?_; (with_reducible refine (spec_NameOK.calls kj2 t101 true _ A11.out).mono ?_); rintro e w16 ⟨rfl, hb⟩; refine ⟨_, rfl, ?_⟩; have n0_ := Aside0.mk (below_step (by repeat (first | (with_reducible first | exact HB.out | apply below_alloc | apply pw_below_drewN | apply below_drew1) | exact HB.out)) hb); clear HB; have HB := n0_; clear n0_; (try clear hb); (try clear hb2); (try clear hk); (try clear hi)) | (go_at_call 19; (with_reducible refine (spec_NameOK.calls kj2 t102 true _ A13.out).mono ?_); rintro e w17 ⟨rfl, hb⟩; have n0_ := Aside0.mk (below_step (by repeat (first | (with_reducible first | exact HB.out | apply below_alloc | apply pw_below_drewN | apply below_drew1) | exact HB.out)) hb); clear HB; have HB := n0_; clear n0_; (try clear hb); (try clear hb2); (try clear hk); (try clear hi)) | (go_at_call 19; (with_reducible refine (spec_NameOK.calls kj2 t103 t107 _ A15.out).mono ?_); rintro e w18 ⟨rfl, hb⟩; have n0_ := Aside0.mk (below_step (by repeat (first | (with_reducible first | exact HB.out | apply below_alloc | apply pw_below_drewN | apply below_drew1) | exact HB.out)) hb); clear HB; have HB := n0_; clear n0_; (try clear hb); (try clear hb2); (try clear hk); (try clear hi)))
              go_meet
              case rel => exact ⟨_, (!t107), (by first | rfl | (simp; done) | (simp [*]; done)), H', ⟨by have := HJ2.out; first | omega | exact Nat.le_refl _⟩, ⟨by repeat (first | (with_reducible first | exact HB.out | apply below_alloc | apply pw_below_drewN | apply below_drew1) | exact HB.out)⟩⟩
            · replace c14 := Bool.eq_false_iff.mpr c14
              subst c14
              have H1 : (laws_FnNameOrder.j1 kj2 t101 t102 t103 true) = some r := by rw [if_neg (show ¬ (false = true) by decide)] at H; exact H
              clear H
              have H := H1
              clear H1
              have H' := Aside0.mk H
              clear H
              go_wp2_with (first | ((with_reducible refine gate_callee (f := 19) rfl ?_); refine goesL_ (some 33) rfl rfl Try.func19 (by kernel_rfl) rfl #[.string t101] rfl (by (try simp only [List.map_toArray, List.map_cons, List.map_nil]); first | done | rfl | (simp only [List.length_drop, List.length_take]; rfl)) ?_; (with_reducible refine (spec_NameOK.calls kj2 t101 true _ A11.out).mono ?_); rintro e w19 ⟨rfl, hb⟩; refine ⟨_, rfl, ?_⟩; have n0_ := Aside0.mk (below_step (by repeat (first | (with_reducible first | exact HB.out | apply below_alloc | apply pw_below_drewN | apply below_drew1) | exact HB.out)) hb); clear HB; have HB := n0_; clear n0_; (try clear hb); (try clear hb2); (try clear hk); (try clear hi)) | (go_at_call 19; (with_reducible refine (spec_NameOK.calls kj2 t102 false _ A13.out).mono ?_); rintro e w20 ⟨rfl, hb⟩; have n0_ := Aside0.mk (below_step (by repeat (first | (with_reducible first | exact HB.out | apply below_alloc | apply pw_below_drewN | apply below_drew1) | exact HB.out)) hb); clear HB; have HB := n0_; clear n0_; (try clear hb); (try clear hb2); (try clear hk); (try clear hi)))
              go_meet
              case rel => exact ⟨_, (true), (by first | rfl | (simp; done) | (simp [*]; done)), H', ⟨by have := HJ2.out; first | omega | exact Nat.le_refl _⟩, ⟨by repeat (first | (with_reducible first | exact HB.out | apply below_alloc | apply pw_below_drewN | apply below_drew1) | exact HB.out)⟩⟩
          · replace c12 := Bool.eq_false_iff.mpr c12
            subst c12
            have H1 : (laws_FnNameOrder.j1 kj2 t101 t102 t103 true) = some r := by rw [if_neg (show ¬ (false = true) by decide)] at H; exact H
            clear H
            have H := H1
            clear H1
            have H' := Aside0.mk H
            clear H
            go_wp2_with (first | ((with_reducible refine gate_callee (f := 19) rfl ?_); refine goesL_ (some 33) rfl rfl Try.func19 (by kernel_rfl) rfl #[.string t101] rfl (by (try simp only [List.map_toArray, List.map_cons, List.map_nil]); first | done | rfl | (simp only [List.length_drop, List.length_take]; rfl)) ?_; (with_reducible refine (spec_NameOK.calls kj2 t101 false _ A11.out).mono ?_); rintro e w21 ⟨rfl, hb⟩; refine ⟨_, rfl, ?_⟩; have n0_ := Aside0.mk (below_step (by repeat (first | (with_reducible first | exact HB.out | apply below_alloc | apply pw_below_drewN | apply below_drew1) | exact HB.out)) hb); clear HB; have HB := n0_; clear n0_; (try clear hb); (try clear hb2); (try clear hk); (try clear hi)))
            go_meet
            case rel => exact ⟨_, (true), (by first | rfl | (simp; done) | (simp [*]; done)), H', ⟨by have := HJ2.out; first | omega | exact Nat.le_refl _⟩, ⟨by repeat (first | (with_reducible first | exact HB.out | apply below_alloc | apply pw_below_drewN | apply below_drew1) | exact HB.out)⟩⟩
        case rest =>
          clear HC8
          try clear c1
          try clear p2
          try clear c4
          try clear c4b0
          try clear c4b1
          try clear c5
          try clear c7
          try clear c12
          try clear c14
          try clear c18
          try clear c19
          try clear p2
          obtain ⟨kq, x44_7, rfl, HA, HJ7, HB⟩ := hcut
          cases kq with
          | zero => exact absurd HA.out (by simp [laws_FnNameOrder.j1])
          | succ kj7 =>
            have H := HA.out
            clear HA
            simp only [laws_FnNameOrder.j1] at H
            by_cases c22 : x44_7 = true
            · subst c22
              have H1 : (some true) = some r := by rw [if_pos rfl] at H; exact H
              clear H
              have H := H1
              clear H1
              obtain rfl := Option.some.inj H
              go_wp2
              go_ret
              exact ⟨by first | rfl | (simp [errW_none, errW_some] <;> rfl) | (simp [*, errW_none, errW_some] <;> rfl), by repeat (first | (with_reducible first | exact HB.out | apply below_alloc | apply pw_below_drewN | apply below_drew1) | exact HB.out)⟩
            · replace c22 := Bool.eq_false_iff.mpr c22
              subst c22
              have H1 : ((impl_CompareNames.f kj7 t101 t102).bind fun t108 => ((impl_CompareNames.f kj7 t102 t103).bind fun t109 => ((impl_CompareNames.f kj7 t101 t103).bind fun t110 => ((impl_CompareNames.f kj7 t102 t101).bind fun t111 => (if t108 = (wrap64 (-t111)) then ((impl_SameName.f kj7 t101 t102).bind fun t112 => (if ((t108 == 0) != t112) = true then (laws_FnNameOrder.j2 kj7 t101 t108 t109 t110 true) else (if t108 < (-1) then (laws_FnNameOrder.j2 kj7 t101 t108 t109 t110 true) else (laws_FnNameOrder.j2 kj7 t101 t108 t109 t110 (decide (t108 > 1)))))) else (laws_FnNameOrder.j2 kj7 t101 t108 t109 t110 true)))))) = some r := by rw [if_neg (show ¬ (false = true) by decide)] at H; exact H
              clear H
              have H := H1
              clear H1
              replace H := Option.bind_eq_some_iff.mp H
              obtain ⟨t108, A230, H⟩ := H
              replace H : ((impl_CompareNames.f kj7 t102 t103).bind fun t109 => ((impl_CompareNames.f kj7 t101 t103).bind fun t110 => ((impl_CompareNames.f kj7 t102 t101).bind fun t111 => (if t108 = (wrap64 (-t111)) then ((impl_SameName.f kj7 t101 t102).bind fun t112 => (if ((t108 == 0) != t112) = true then (laws_FnNameOrder.j2 kj7 t101 t108 t109 t110 true) else (if t108 < (-1) then (laws_FnNameOrder.j2 kj7 t101 t108 t109 t110 true) else (laws_FnNameOrder.j2 kj7 t101 t108 t109 t110 (decide (t108 > 1)))))) else (laws_FnNameOrder.j2 kj7 t101 t108 t109 t110 true))))) = some r := H
              have A23 := Aside0.mk A230
              clear A230
              replace H := Option.bind_eq_some_iff.mp H
              obtain ⟨t109, A240, H⟩ := H
              replace H : ((impl_CompareNames.f kj7 t101 t103).bind fun t110 => ((impl_CompareNames.f kj7 t102 t101).bind fun t111 => (if t108 = (wrap64 (-t111)) then ((impl_SameName.f kj7 t101 t102).bind fun t112 => (if ((t108 == 0) != t112) = true then (laws_FnNameOrder.j2 kj7 t101 t108 t109 t110 true) else (if t108 < (-1) then (laws_FnNameOrder.j2 kj7 t101 t108 t109 t110 true) else (laws_FnNameOrder.j2 kj7 t101 t108 t109 t110 (decide (t108 > 1)))))) else (laws_FnNameOrder.j2 kj7 t101 t108 t109 t110 true)))) = some r := H
              have A24 := Aside0.mk A240
              clear A240
              replace H := Option.bind_eq_some_iff.mp H
              obtain ⟨t110, A250, H⟩ := H
              replace H : ((impl_CompareNames.f kj7 t102 t101).bind fun t111 => (if t108 = (wrap64 (-t111)) then ((impl_SameName.f kj7 t101 t102).bind fun t112 => (if ((t108 == 0) != t112) = true then (laws_FnNameOrder.j2 kj7 t101 t108 t109 t110 true) else (if t108 < (-1) then (laws_FnNameOrder.j2 kj7 t101 t108 t109 t110 true) else (laws_FnNameOrder.j2 kj7 t101 t108 t109 t110 (decide (t108 > 1)))))) else (laws_FnNameOrder.j2 kj7 t101 t108 t109 t110 true))) = some r := H
              have A25 := Aside0.mk A250
              clear A250
              have HC26 := Aside0.mk H
              clear H
              go_upto_region 10 with (first | ((with_reducible refine gate_callee (f := 20) rfl ?_); refine goesL_ (some 47) rfl rfl Try.func20 (by kernel_rfl) rfl #[.string t101, .string t102] rfl (by (try simp only [List.map_toArray, List.map_cons, List.map_nil]); first | done | rfl | (simp only [List.length_drop, List.length_take]; rfl)) ?_; (with_reducible refine (impl_CompareNames.calls kj7 t101 t102 t108 _ A23.out).mono ?_); rintro e w27 ⟨rfl, hb⟩; refine ⟨_, rfl, ?_⟩; have n0_ := Aside0.mk (below_step (by repeat (first | (with_reducible first | exact HB.out | apply below_alloc | apply pw_below_drewN | apply below_drew1) | exact HB.out)) hb); clear HB; have HB := n0_; clear n0_; (try clear hb); (try clear hb2); (try clear hk); (try clear hi)) | ((with_reducible refine gate_callee (f := 20) rfl ?_); refine goesL_ (some 50) rfl rfl Try.func20 (by kernel_rfl) rfl #[.string t102, .string t103] rfl (by (try simp only [List.map_toArray, List.map_cons, List.map_nil]); first | done | rfl | (simp only [List.length_drop, List.length_take]; rfl)) ?_; (with_reducible refine (impl_CompareNames.calls kj7 t102 t103 t109 _ A24.out).mono ?_); rintro e w28 ⟨rfl, hb⟩; refine ⟨_, rfl, ?_⟩; have n0_ := Aside0.mk (below_step (by repeat (first | (with_reducible first | exact HB.out | apply below_alloc | apply pw_below_drewN | apply below_drew1) | exact HB.out)) hb); clear HB; have HB := n0_; clear n0_; (try clear hb); (try clear hb2); (try clear hk); (try clear hi)) | ((with_reducible refine gate_callee (f := 20) rfl ?_); refine goesL_ (some 53) rfl rfl Try.func20 (by kernel_rfl) rfl #[.string t101, .string t103] rfl (by (try simp only [List.map_toArray, List.map_cons, List.map_nil]); first | done | rfl | (simp only [List.length_drop, List.length_take]; rfl)) ?_; (with_reducible refine (impl_CompareNames.calls kj7 t101 t103 t110 _ A25.out).mono ?_); rintro e w29 ⟨rfl, hb⟩; refine ⟨_, rfl, ?_⟩; have n0_ := Aside0.mk (below_step (by repeat (first | (with_reducible first | exact HB.out | apply below_alloc | apply pw_below_drewN | apply below_drew1) | exact HB.out)) hb); clear HB; have HB := n0_; clear n0_; (try clear hb); (try clear hb2); (try clear hk); (try clear hi)))
              (try simp only [Act.put, List.setIfInBounds_toArray, List.set_cons_zero, List.set_cons_succ])
              go_cut [75] (fun v75 wc => ∃ (kq : Nat) (x75_25 : Bool), v75 = .bool x75_25 ∧ Aside0 (laws_FnNameOrder.j2 kq t101 t108 t109 t110 x75_25 = some r) ∧ Aside0 (kq ≤ kj7) ∧ Aside0 (Below w.heap.size w wc))
              case first =>
                have H := HC26.out
                clear HC26
                replace H := Option.bind_eq_some_iff.mp H
                obtain ⟨t111, A300, H⟩ := H
                replace H : (if t108 = (wrap64 (-t111)) then ((impl_SameName.f kj7 t101 t102).bind fun t112 => (if ((t108 == 0) != t112) = true then (laws_FnNameOrder.j2 kj7 t101 t108 t109 t110 true) else (if t108 < (-1) then (laws_FnNameOrder.j2 kj7 t101 t108 t109 t110 true) else (laws_FnNameOrder.j2 kj7 t101 t108 t109 t110 (decide (t108 > 1)))))) else (laws_FnNameOrder.j2 kj7 t101 t108 t109 t110 true)) = some r := H
                have A30 := Aside0.mk A300
                clear A300
                by_cases c31 : t108 = (wrap64 (-t111))
                · rw [if_pos c31] at H
                  have c31b0 : (t108 == (wrap64 (-t111))) = true := beq_iff_eq.mpr c31
                  have c31b1 : (t108 != (wrap64 (-t111))) = false := bne_eq_false_iff_eq.mpr c31
                  clear c31
                  (first | rw [c31b0] | (simp only [i64_w, i32_w]; rw [c31b0]) | skip)
                  replace H := Option.bind_eq_some_iff.mp H
                  obtain ⟨t112, A320, H⟩ := H
                  replace H : (if ((t108 == 0) != t112) = true then (laws_FnNameOrder.j2 kj7 t101 t108 t109 t110 true) else (if t108 < (-1) then (laws_FnNameOrder.j2 kj7 t101 t108 t109 t110 true) else (laws_FnNameOrder.j2 kj7 t101 t108 t109 t110 (decide (t108 > 1))))) = some r := H
                  have A32 := Aside0.mk A320
                  clear A320
                  by_cases c33 : ((t108 == 0) != t112) = true
                  · rw [if_pos c33] at H
                    have c33b0 : ((t108 == 0) != t112) = true := c33
                    (try (have c33b1 : decide ((t108 == 0) = t112) = false := by simpa using c33))
                    (try (have c33b2 : ((t108 == 0) == t112) = false := by simpa using c33))
                    (try (have c33b3 : ¬ ((t108 == 0) = t112) := by simpa using c33))
                    clear c33
                    have H' := Aside0.mk H
                    clear H
                    go_wp2_with (first | ((with_reducible refine gate_callee (f := 20) rfl ?_); refine goesL_ (some 57) rfl rfl Try.func20 (by kernel_rfl) rfl #[.string t102, .string t101] rfl (by (try simp only [List.map_toArray, List.map_cons, List.map_nil]); first | done | rfl | (simp only [List.length_drop, List.length_take]; rfl)) ?_; (with_reducible refine (impl_CompareNames.calls kj7 t102 t101 t111 _ A30.out).mono ?_); rintro e w34 ⟨rfl, hb⟩; refine ⟨_, rfl, ?_⟩; have n0_ := Aside0.mk (below_step (by repeat (first | (with_reducible first | exact HB.out | apply below_alloc | apply pw_below_drewN | apply below_drew1) | exact HB.out)) hb); clear HB; have HB := n0_; clear n0_; (try clear hb); (try clear hb2); (try clear hk); (try clear hi)) | (go_at_call 21; (with_reducible refine (impl_SameName.calls kj7 t101 t102 t112 _ A32.out).mono ?_); rintro e w35 ⟨rfl, hb⟩; have n0_ := Aside0.mk (below_step (by repeat (first | (with_reducible first | exact HB.out | apply below_alloc | apply pw_below_drewN | apply below_drew1) | exact HB.out)) hb); clear HB; have HB := n0_; clear n0_; (try clear hb); (try clear hb2); (try clear hk); (try clear hi)))
                    go_meet
                    case rel => exact ⟨_, (true), (by first | rfl | (simp; done) | (simp [*]; done)), H', ⟨by have := HJ2.out; have := HJ7.out; first | omega | exact Nat.le_refl _⟩, ⟨by repeat (first | (with_reducible first | exact HB.out | apply below_alloc | apply pw_below_drewN | apply below_drew1) | exact HB.out)⟩⟩
                  · rw [if_neg c33] at H
                    have c33b0 : ((t108 == 0) != t112) = false := by simpa using c33
                    (try (have c33b1 : decide ((t108 == 0) = t112) = true := by simpa using c33))
                    (try (have c33b2 : ((t108 == 0) == t112) = true := by simpa using c33))
                    clear c33
                    by_cases c36 : t108 < (-1)
                    · rw [if_pos c36] at H
                      have c36b0 : decide (t108 < (-1)) = true := decide_eq_true c36
                      clear c36
                      have H' := Aside0.mk H
                      clear H
                      go_wp2_with (first | ((with_reducible refine gate_callee (f := 20) rfl ?_); refine goesL_ (some 57) rfl rfl Try.func20 (by kernel_rfl) rfl #[.string t102, .string t101] rfl (by (try simp only [List.map_toArray, List.map_cons, List.map_nil]); first | done | rfl | (simp only [List.length_drop, List.length_take]; rfl)) ?_; (with_reducible refine (impl_CompareNames.calls kj7 t102 t101 t111 _ A30.out).mono ?_); rintro e w37 ⟨rfl, hb⟩; refine ⟨_, rfl, ?_⟩; have n0_ := Aside0.mk (below_step (by repeat (first | (with_reducible first | exact HB.out | apply below_alloc | apply pw_below_drewN | apply below_drew1) | exact HB.out)) hb); clear HB; have HB := n0_; clear n0_; (try clear hb); (try clear hb2); (try clear hk); (try clear hi)) | (go_at_call 21; (with_reducible refine (impl_SameName.calls kj7 t101 t102 t112 _ A32.out).mono ?_); rintro e w38 ⟨rfl, hb⟩; have n0_ := Aside0.mk (below_step (by repeat (first | (with_reducible first | exact HB.out | apply below_alloc | apply pw_below_drewN | apply below_drew1) | exact HB.out)) hb); clear HB; have HB := n0_; clear n0_; (try clear hb); (try clear hb2); (try clear hk); (try clear hi)))
                      go_meet
                      case rel => exact ⟨_, (true), (by first | rfl | (simp; done) | (simp [*]; done)), H', ⟨by have := HJ2.out; have := HJ7.out; first | omega | exact Nat.le_refl _⟩, ⟨by repeat (first | (with_reducible first | exact HB.out | apply below_alloc | apply pw_below_drewN | apply below_drew1) | exact HB.out)⟩⟩
                    · rw [if_neg c36] at H
                      have c36b0 : decide (t108 < (-1)) = false := decide_eq_false c36
                      clear c36
                      have H' := Aside0.mk H
                      clear H
                      go_wp2_with (first | ((with_reducible refine gate_callee (f := 20) rfl ?_); refine goesL_ (some 57) rfl rfl Try.func20 (by kernel_rfl) rfl #[.string t102, .string t101] rfl (by (try simp only [List.map_toArray, List.map_cons, List.map_nil]); first | done | rfl | (simp only [List.length_drop, List.length_take]; rfl)) ?_; (with_reducible refine (impl_CompareNames.calls kj7 t102 t101 t111 _ A30.out).mono ?_); rintro e w39 ⟨rfl, hb⟩; refine ⟨_, rfl, ?_⟩; have n0_ := Aside0.mk (below_step (by repeat (first | (with_reducible first | exact HB.out | apply below_alloc | apply pw_below_drewN | apply below_drew1) | exact HB.out)) hb); clear HB; have HB := n0_; clear n0_; (try clear hb); (try clear hb2); (try clear hk); (try clear hi)) | (go_at_call 21; (with_reducible refine (impl_SameName.calls kj7 t101 t102 t112 _ A32.out).mono ?_); rintro e w40 ⟨rfl, hb⟩; have n0_ := Aside0.mk (below_step (by repeat (first | (with_reducible first | exact HB.out | apply below_alloc | apply pw_below_drewN | apply below_drew1) | exact HB.out)) hb); clear HB; have HB := n0_; clear n0_; (try clear hb); (try clear hb2); (try clear hk); (try clear hi)))
                      go_meet
                      case rel => exact ⟨_, (decide (t108 > 1)), (by first | rfl | (simp; done) | (simp [*]; done)), H', ⟨by have := HJ2.out; have := HJ7.out; first | omega | exact Nat.le_refl _⟩, ⟨by repeat (first | (with_reducible first | exact HB.out | apply below_alloc | apply pw_below_drewN | apply below_drew1) | exact HB.out)⟩⟩
                · rw [if_neg c31] at H
                  have c31b0 : (t108 == (wrap64 (-t111))) = false := beq_eq_false_iff_ne.mpr c31
                  have c31b1 : (t108 != (wrap64 (-t111))) = true := bne_iff_ne.mpr c31
                  (first | rw [c31b0] | (simp only [i64_w, i32_w]; rw [c31b0]) | skip)
                  have H' := Aside0.mk H
                  clear H
                  go_wp2_with (first | ((with_reducible refine gate_callee (f := 20) rfl ?_); refine goesL_ (some 57) rfl rfl Try.func20 (by kernel_rfl) rfl #[.string t102, .string t101] rfl (by (try simp only [List.map_toArray, List.map_cons, List.map_nil]); first | done | rfl | (simp only [List.length_drop, List.length_take]; rfl)) ?_; (with_reducible refine (impl_CompareNames.calls kj7 t102 t101 t111 _ A30.out).mono ?_); rintro e w41 ⟨rfl, hb⟩; refine ⟨_, rfl, ?_⟩; have n0_ := Aside0.mk (below_step (by repeat (first | (with_reducible first | exact HB.out | apply below_alloc | apply pw_below_drewN | apply below_drew1) | exact HB.out)) hb); clear HB; have HB := n0_; clear n0_; (try clear hb); (try clear hb2); (try clear hk); (try clear hi)))
                  go_meet
                  case rel => exact ⟨_, (true), (by first | rfl | (simp; done) | (simp [*]; done)), H', ⟨by have := HJ2.out; have := HJ7.out; first | omega | exact Nat.le_refl _⟩, ⟨by repeat (first | (with_reducible first | exact HB.out | apply below_alloc | apply pw_below_drewN | apply below_drew1) | exact HB.out)⟩⟩
              case rest =>
                clear HC26
                try clear c1
                try clear c2
                try clear p2
                try clear c3
                try clear c4
                try clear c4b0
                try clear c4b1
                try clear c5
                try clear p6
                try clear c7
                try clear c12
                try clear c14
                try clear c18
                try clear c19
                try clear c20
                try clear c22
                try clear c31
                try clear c31b0
                try clear c31b1
                try clear c33
                try clear c33b0
                try clear c33b1
                try clear c33b2
                try clear c36
                try clear c36b0
                try clear p2
                obtain ⟨kq, x75_25, rfl, HA, HJ25, HB⟩ := hcut
                cases kq with
                | zero => exact absurd HA.out (by simp [laws_FnNameOrder.j2])
                | succ kj25 =>
                  have H := HA.out
                  clear HA
                  simp only [laws_FnNameOrder.j2] at H
                  by_cases c42 : x75_25 = true
                  · subst c42
                    have H1 : (some false) = some r := by rw [if_pos rfl] at H; exact H
                    clear H
                    have H := H1
                    clear H1
                    obtain rfl := Option.some.inj H
                    go_wp2
                    go_ret
                    exact ⟨by first | rfl | (simp [errW_none, errW_some] <;> rfl) | (simp [*, errW_none, errW_some] <;> rfl), by repeat (first | (with_reducible first | exact HB.out | apply below_alloc | apply pw_below_drewN | apply below_drew1) | exact HB.out)⟩
                  · replace c42 := Bool.eq_false_iff.mpr c42
                    subst c42
                    have H1 : (if t108 ≤ 0 then (if t109 ≤ 0 then (if t110 > 0 then (laws_FnNameOrder.j3 kj25 t101 true) else (if t108 ≥ 0 then (if t109 ≥ 0 then (laws_FnNameOrder.j3 kj25 t101 (decide (t110 < 0))) else (laws_FnNameOrder.j3 kj25 t101 false)) else (laws_FnNameOrder.j3 kj25 t101 false))) else (if t108 ≥ 0 then (if t109 ≥ 0 then (laws_FnNameOrder.j3 kj25 t101 (decide (t110 < 0))) else (laws_FnNameOrder.j3 kj25 t101 false)) else (laws_FnNameOrder.j3 kj25 t101 false))) else (if t108 ≥ 0 then (if t109 ≥ 0 then (laws_FnNameOrder.j3 kj25 t101 (decide (t110 < 0))) else (laws_FnNameOrder.j3 kj25 t101 false)) else (laws_FnNameOrder.j3 kj25 t101 false))) = some r := by rw [if_neg (show ¬ (false = true) by decide)] at H; exact H
                    clear H
                    have H := H1
                    clear H1
                    have HC43 := Aside0.mk H
                    clear H
                    go_upto_region 12 with (fail)
                    go_cut [97] (fun v97 wc => ∃ (kq : Nat) (x97_42 : Bool), v97 = .bool x97_42 ∧ Aside0 (laws_FnNameOrder.j3 kq t101 x97_42 = some r) ∧ Aside0 (kq ≤ kj25) ∧ Aside0 (Below w.heap.size w wc))
                    case first =>
                      have H := HC43.out
                      clear HC43
                      by_cases c44 : t108 ≤ 0
                      · rw [if_pos c44] at H
                        have c44b0 : decide (t108 ≤ 0) = true := decide_eq_true c44
                        clear c44
                        (first | rw [c44b0] | (simp only [i64_w, i32_w]; rw [c44b0]) | skip)
                        by_cases c45 : t109 ≤ 0
                        · rw [if_pos c45] at H
                          have c45b0 : decide (t109 ≤ 0) = true := decide_eq_true c45
                          clear c45
                          by_cases c46 : t110 > 0
                          · rw [if_pos c46] at H
                            have c46b0 : decide (0 < t110) = true := decide_eq_true c46
                            clear c46
                            have H' := Aside0.mk H
                            clear H
                            go_wp2
                            go_meet
                            case rel => exact ⟨_, (true), (by first | rfl | (simp; done) | (simp [*]; done)), H', ⟨by have := HJ2.out; have := HJ7.out; have := HJ25.out; first | omega | exact Nat.le_refl _⟩, ⟨by repeat (first | (with_reducible first | exact HB.out | apply below_alloc | apply pw_below_drewN | apply below_drew1) | exact HB.out)⟩⟩
                          · rw [if_neg c46] at H
                            have c46b0 : decide (0 < t110) = false := decide_eq_false c46
                            clear c46
                            by_cases c47 : t108 ≥ 0
                            · rw [if_pos c47] at H
                              have c47b0 : decide (0 ≤ t108) = true := decide_eq_true c47
                              clear c47
                              by_cases c48 : t109 ≥ 0
                              · rw [if_pos c48] at H
                                have c48b0 : decide (0 ≤ t109) = true := decide_eq_true c48
                                clear c48
                                have H' := Aside0.mk H
                                clear H
                                go_wp2
                                go_meet
                                case rel => exact ⟨_, (decide (t110 < 0)), (by first | rfl | (simp; done) | (simp [*]; done)), H', ⟨by have := HJ2.out; have := HJ7.out; have := HJ25.out; first | omega | exact Nat.le_refl _⟩, ⟨by repeat (first | (with_reducible first | exact HB.out | apply below_alloc | apply pw_below_drewN | apply below_drew1) | exact HB.out)⟩⟩
                              · rw [if_neg c48] at H
                                have c48b0 : decide (0 ≤ t109) = false := decide_eq_false c48
                                clear c48
                                have H' := Aside0.mk H
                                clear H
                                go_wp2
                                go_meet
                                case rel => exact ⟨_, (false), (by first | rfl | (simp; done) | (simp [*]; done)), H', ⟨by have := HJ2.out; have := HJ7.out; have := HJ25.out; first | omega | exact Nat.le_refl _⟩, ⟨by repeat (first | (with_reducible first | exact HB.out | apply below_alloc | apply pw_below_drewN | apply below_drew1) | exact HB.out)⟩⟩
                            · rw [if_neg c47] at H
                              have c47b0 : decide (0 ≤ t108) = false := decide_eq_false c47
                              clear c47
                              have H' := Aside0.mk H
                              clear H
                              go_wp2
                              go_meet
                              case rel => exact ⟨_, (false), (by first | rfl | (simp; done) | (simp [*]; done)), H', ⟨by have := HJ2.out; have := HJ7.out; have := HJ25.out; first | omega | exact Nat.le_refl _⟩, ⟨by repeat (first | (with_reducible first | exact HB.out | apply below_alloc | apply pw_below_drewN | apply below_drew1) | exact HB.out)⟩⟩
                        · rw [if_neg c45] at H
                          have c45b0 : decide (t109 ≤ 0) = false := decide_eq_false c45
                          clear c45
                          by_cases c49 : t108 ≥ 0
                          · rw [if_pos c49] at H
                            have c49b0 : decide (0 ≤ t108) = true := decide_eq_true c49
                            clear c49
                            by_cases c50 : t109 ≥ 0
                            · rw [if_pos c50] at H
                              have c50b0 : decide (0 ≤ t109) = true := decide_eq_true c50
                              clear c50
                              have H' := Aside0.mk H
                              clear H
                              go_wp2
                              go_meet
                              case rel => exact ⟨_, (decide (t110 < 0)), (by first | rfl | (simp; done) | (simp [*]; done)), H', ⟨by have := HJ2.out; have := HJ7.out; have := HJ25.out; first | omega | exact Nat.le_refl _⟩, ⟨by repeat (first | (with_reducible first | exact HB.out | apply below_alloc | apply pw_below_drewN | apply below_drew1) | exact HB.out)⟩⟩
                            · rw [if_neg c50] at H
                              have c50b0 : decide (0 ≤ t109) = false := decide_eq_false c50
                              clear c50
                              have H' := Aside0.mk H
                              clear H
                              go_wp2
                              go_meet
                              case rel => exact ⟨_, (false), (by first | rfl | (simp; done) | (simp [*]; done)), H', ⟨by have := HJ2.out; have := HJ7.out; have := HJ25.out; first | omega | exact Nat.le_refl _⟩, ⟨by repeat (first | (with_reducible first | exact HB.out | apply below_alloc | apply pw_below_drewN | apply below_drew1) | exact HB.out)⟩⟩
                          · rw [if_neg c49] at H
                            have c49b0 : decide (0 ≤ t108) = false := decide_eq_false c49
                            clear c49
                            have H' := Aside0.mk H
                            clear H
                            go_wp2
                            go_meet
                            case rel => exact ⟨_, (false), (by first | rfl | (simp; done) | (simp [*]; done)), H', ⟨by have := HJ2.out; have := HJ7.out; have := HJ25.out; first | omega | exact Nat.le_refl _⟩, ⟨by repeat (first | (with_reducible first | exact HB.out | apply below_alloc | apply pw_below_drewN | apply below_drew1) | exact HB.out)⟩⟩
                      · rw [if_neg c44] at H
                        have c44b0 : decide (t108 ≤ 0) = false := decide_eq_false c44
                        clear c44
                        (first | rw [c44b0] | (simp only [i64_w, i32_w]; rw [c44b0]) | skip)
                        by_cases c51 : t108 ≥ 0
                        · rw [if_pos c51] at H
                          have c51b0 : decide (0 ≤ t108) = true := decide_eq_true c51
                          clear c51
                          by_cases c52 : t109 ≥ 0
                          · rw [if_pos c52] at H
                            have c52b0 : decide (0 ≤ t109) = true := decide_eq_true c52
                            clear c52
                            have H' := Aside0.mk H
                            clear H
                            go_wp2
                            go_meet
                            case rel => exact ⟨_, (decide (t110 < 0)), (by first | rfl | (simp; done) | (simp [*]; done)), H', ⟨by have := HJ2.out; have := HJ7.out; have := HJ25.out; first | omega | exact Nat.le_refl _⟩, ⟨by repeat (first | (with_reducible first | exact HB.out | apply below_alloc | apply pw_below_drewN | apply below_drew1) | exact HB.out)⟩⟩
                          · rw [if_neg c52] at H
                            have c52b0 : decide (0 ≤ t109) = false := decide_eq_false c52
                            clear c52
                            have H' := Aside0.mk H
                            clear H
                            go_wp2
                            go_meet
                            case rel => exact ⟨_, (false), (by first | rfl | (simp; done) | (simp [*]; done)), H', ⟨by have := HJ2.out; have := HJ7.out; have := HJ25.out; first | omega | exact Nat.le_refl _⟩, ⟨by repeat (first | (with_reducible first | exact HB.out | apply below_alloc | apply pw_below_drewN | apply below_drew1) | exact HB.out)⟩⟩
                        · rw [if_neg c51] at H
                          have c51b0 : decide (0 ≤ t108) = false := decide_eq_false c51
                          clear c51
                          have H' := Aside0.mk H
                          clear H
                          go_wp2
                          go_meet
                          case rel => exact ⟨_, (false), (by first | rfl | (simp; done) | (simp [*]; done)), H', ⟨by have := HJ2.out; have := HJ7.out; have := HJ25.out; first | omega | exact Nat.le_refl _⟩, ⟨by repeat (first | (with_reducible first | exact HB.out | apply below_alloc | apply pw_below_drewN | apply below_drew1) | exact HB.out)⟩⟩
                    case rest =>
                      clear HC43
                      try clear c1
                      try clear c2
                      try clear p2
                      try clear c3
                      try clear c4
                      try clear c4b0
                      try clear c4b1
                      try clear c5
                      try clear p6
                      try clear c7
                      try clear c12
                      try clear c14
                      try clear c18
                      try clear c19
                      try clear c20
                      try clear c22
                      try clear c31
                      try clear c31b0
                      try clear c31b1
                      try clear c33
                      try clear c33b0
                      try clear c33b1
                      try clear c33b2
                      try clear c36
                      try clear c36b0
                      try clear c42
                      try clear c44
                      try clear c44b0
                      try clear c45
                      try clear c45b0
                      try clear c46
                      try clear c46b0
                      try clear c47
                      try clear c47b0
                      try clear c48
                      try clear c48b0
                      try clear c49
                      try clear c49b0
                      try clear c50
                      try clear c50b0
                      try clear c51
                      try clear c51b0
                      try clear c52
                      try clear c52b0
                      try clear p2
                      try clear p6
                      obtain ⟨kq, x97_42, rfl, HA, HJ42, HB⟩ := hcut
                      cases kq with
                      | zero => exact absurd HA.out (by simp [laws_FnNameOrder.j3])
                      | succ kj42 =>
                        have H := HA.out
                        clear HA
                        simp only [laws_FnNameOrder.j3] at H
                        by_cases c53 : x97_42 = true
                        · subst c53
                          have H1 : (some false) = some r := by rw [if_pos rfl] at H; exact H
                          clear H
                          have H := H1
                          clear H1
                          obtain rfl := Option.some.inj H
                          go_wp2
                          go_ret
                          exact ⟨by first | rfl | (simp [errW_none, errW_some] <;> rfl) | (simp [*, errW_none, errW_some] <;> rfl), by repeat (first | (with_reducible first | exact HB.out | apply below_alloc | apply pw_below_drewN | apply below_drew1) | exact HB.out)⟩
                        · replace c53 := Bool.eq_false_iff.mpr c53
                          subst c53
                          have H1 : ((impl_Ancestor.f kj42 t101 1).bind fun bt113 => (if t101.toList = ([0] : List UInt8) then (some (bt113.2 == 32)) else (if bt113.2 = 0 then ((impl_CompareNames.f kj42 bt113.1 t101).bind fun t115 => (if t115 = (-1) then ((impl_IsUnder.f kj42 t101 bt113.1).bind fun t116 => (if t116 = true then ((impl_IsUnder.f kj42 bt113.1 t101).bind fun t117 => (some (!t117))) else (some false))) else (some false))) else (some false)))) = some r := by rw [if_neg (show ¬ (false = true) by decide)] at H; exact H
                          clear H
                          have H := H1
                          clear H1
                          replace H := Option.bind_eq_some_iff.mp H
                          obtain ⟨⟨t113, t114⟩, A540, H⟩ := H
                          replace H : (if t101.toList = ([0] : List UInt8) then (some (t114 == 32)) else (if t114 = 0 then ((impl_CompareNames.f kj42 t113 t101).bind fun t115 => (if t115 = (-1) then ((impl_IsUnder.f kj42 t101 t113).bind fun t116 => (if t116 = true then ((impl_IsUnder.f kj42 t113 t101).bind fun t117 => (some (!t117))) else (some false))) else (some false))) else (some false))) = some r := H
                          have A54 := Aside0.mk A540
                          clear A540
                          by_cases c55 : t101.toList = ([0] : List UInt8)
                          · rw [if_pos c55] at H
                            have c55b0 : (t101.toList == ([0] : List UInt8)) = true := beq_iff_eq.mpr c55
                            have c55b1 : (t101.toList != ([0] : List UInt8)) = false := bne_eq_false_iff_eq.mpr c55
                            clear c55
                            obtain rfl := Option.some.inj H
                            go_wp2_with (first | ((with_reducible refine gate_callee (f := 22) rfl ?_); refine goesL_ (some 100) rfl rfl Try.func22 (by kernel_rfl) rfl #[.string t101, .int .i64 1] rfl (by (try simp only [List.map_toArray, List.map_cons, List.map_nil]); first | done | rfl | (simp only [List.length_drop, List.length_take]; rfl)) ?_; (with_reducible refine (impl_Ancestor.calls kj42 t101 1 t113 t114 _ A54.out).mono ?_); rintro e w56 ⟨rfl, hb⟩; refine ⟨_, rfl, ?_⟩; have n0_ := Aside0.mk (below_step (by repeat (first | (with_reducible first | exact HB.out | apply below_alloc | apply pw_below_drewN | apply below_drew1) | exact HB.out)) hb); clear HB; have HB := n0_; clear n0_; (try clear hb); (try clear hb2); (try clear hk); (try clear hi)))
                            go_ret
                            exact ⟨by first | rfl | (simp [errW_none, errW_some] <;> rfl) | (simp [*, errW_none, errW_some] <;> rfl), by repeat (first | (with_reducible first | exact HB.out | apply below_alloc | apply pw_below_drewN | apply below_drew1) | exact HB.out)⟩
                          · rw [if_neg c55] at H
                            have c55b0 : (t101.toList == ([0] : List UInt8)) = false := beq_eq_false_iff_ne.mpr c55
                            have c55b1 : (t101.toList != ([0] : List UInt8)) = true := bne_iff_ne.mpr c55
                            by_cases c57 : t114 = 0
                            · rw [if_pos c57] at H
                              have c57b0 : (t114 == 0) = true := beq_iff_eq.mpr c57
                              have c57b1 : (t114 != 0) = false := bne_eq_false_iff_eq.mpr c57
                              clear c57
                              replace H := Option.bind_eq_some_iff.mp H
                              obtain ⟨t115, A580, H⟩ := H
                              replace H : (if t115 = (-1) then ((impl_IsUnder.f kj42 t101 t113).bind fun t116 => (if t116 = true then ((impl_IsUnder.f kj42 t113 t101).bind fun t117 => (some (!t117))) else (some false))) else (some false)) = some r := H
                              have A58 := Aside0.mk A580
                              clear A580
                              by_cases c59 : t115 = (-1)
                              · rw [if_pos c59] at H
                                have c59b0 : (t115 == (-1)) = true := beq_iff_eq.mpr c59
                                have c59b1 : (t115 != (-1)) = false := bne_eq_false_iff_eq.mpr c59
                                clear c59
                                replace H := Option.bind_eq_some_iff.mp H
                                obtain ⟨t116, A600, H⟩ := H
                                replace H : (if t116 = true then ((impl_IsUnder.f kj42 t113 t101).bind fun t117 => (some (!t117))) else (some false)) = some r := H
                                have A60 := Aside0.mk A600
                                clear A600
                                by_cases c61 : t116 = true
                                · subst c61
                                  have H1 : ((impl_IsUnder.f kj42 t113 t101).bind fun t117 => (some (!t117))) = some r := by rw [if_pos rfl] at H; exact H
                                  clear H
                                  have H := H1
                                  clear H1
                                  replace H := Option.bind_eq_some_iff.mp H
                                  obtain ⟨t117, A620, H⟩ := H
                                  replace H : (some (!t117)) = some r := H
                                  have A62 := Aside0.mk A620
                                  clear A620
                                  obtain rfl := Option.some.inj H
                                  go_wp2_with (first | ((with_reducible refine gate_callee (f := 22) rfl ?_); refine goesL_ (some 100) rfl rfl Try.func22 (by kernel_rfl) rfl #[.string t101, .int .i64 1] rfl (by (try simp only [List.map_toArray, List.map_cons, List.map_nil]); first | done | rfl | (simp only [List.length_drop, List.length_take]; rfl)) ?_; (with_reducible refine (impl_Ancestor.calls kj42 t101 1 t113 t114 _ A54.out).mono ?_); rintro e w63 ⟨rfl, hb⟩; refine ⟨_, rfl, ?_⟩; have n0_ := Aside0.mk (below_step (by repeat (first | (with_reducible first | exact HB.out | apply below_alloc | apply pw_below_drewN | apply below_drew1) | exact HB.out)) hb); clear HB; have HB := n0_; clear n0_; (try clear hb); (try clear hb2); (try clear hk); (try clear hi)) | (go_at_call 20; (with_reducible refine (impl_CompareNames.calls kj42 t113 t101 t115 _ A58.out).mono ?_); rintro e w64 ⟨rfl, hb⟩; have n0_ := Aside0.mk (below_step (by repeat (first | (with_reducible first | exact HB.out | apply below_alloc | apply pw_below_drewN | apply below_drew1) | exact HB.out)) hb); clear HB; have HB := n0_; clear n0_; (try clear hb); (try clear hb2); (try clear hk); (try clear hi)) | (go_at_call 13; (with_reducible refine (impl_IsUnder.calls kj42 t101 t113 true _ A60.out).mono ?_); rintro e w65 ⟨rfl, hb⟩; have n0_ := Aside0.mk (below_step (by repeat (first | (with_reducible first | exact HB.out | apply below_alloc | apply pw_below_drewN | apply below_drew1) | exact HB.out)) hb); clear HB; have HB := n0_; clear n0_; (try clear hb); (try clear hb2); (try clear hk); (try clear hi)) | (go_at_call 13; (with_reducible refine (impl_IsUnder.calls kj42 t113 t101 t117 _ A62.out).mono ?_); rintro e w66 ⟨rfl, hb⟩; have n0_ := Aside0.mk (below_step (by repeat (first | (with_reducible first | exact HB.out | apply below_alloc | apply pw_below_drewN | apply below_drew1) | exact HB.out)) hb); clear HB; have HB := n0_; clear n0_; (try clear hb); (try clear hb2); (try clear hk); (try clear hi)))
                                  go_ret
                                  exact ⟨by first | rfl | (simp [errW_none, errW_some] <;> rfl) | (simp [*, errW_none, errW_some] <;> rfl), by repeat (first | (with_reducible first | exact HB.out | apply below_alloc | apply pw_below_drewN | apply below_drew1) | exact HB.out)⟩
                                · replace c61 := Bool.eq_false_iff.mpr c61
                                  subst c61
                                  have H1 : (some false) = some r := by rw [if_neg (show ¬ (false = true) by decide)] at H; exact H
                                  clear H
                                  have H := H1
                                  clear H1
                                  obtain rfl := Option.some.inj H
                                  go_wp2_with (first | ((with_reducible refine gate_callee (f := 22) rfl ?_); refine goesL_ (some 100) rfl rfl Try.func22 (by kernel_rfl) rfl #[.string t101, .int .i64 1] rfl (by (try simp only [List.map_toArray, List.map_cons, List.map_nil]); first | done | rfl | (simp only [List.length_drop, List.length_take]; rfl)) ?_; (with_reducible refine (impl_Ancestor.calls kj42 t101 1 t113 t114 _ A54.out).mono ?_); rintro e w67 ⟨rfl, hb⟩; refine ⟨_, rfl, ?_⟩; have n0_ := Aside0.mk (below_step (by repeat (first | (with_reducible first | exact HB.out | apply below_alloc | apply pw_below_drewN | apply below_drew1) | exact HB.out)) hb); clear HB; have HB := n0_; clear n0_; (try clear hb); (try clear hb2); (try clear hk); (try clear hi)) | (go_at_call 20; (with_reducible refine (impl_CompareNames.calls kj42 t113 t101 t115 _ A58.out).mono ?_); rintro e w68 ⟨rfl, hb⟩; have n0_ := Aside0.mk (below_step (by repeat (first | (with_reducible first | exact HB.out | apply below_alloc | apply pw_below_drewN | apply below_drew1) | exact HB.out)) hb); clear HB; have HB := n0_; clear n0_; (try clear hb); (try clear hb2); (try clear hk); (try clear hi)) | (go_at_call 13; (with_reducible refine (impl_IsUnder.calls kj42 t101 t113 false _ A60.out).mono ?_); rintro e w69 ⟨rfl, hb⟩; have n0_ := Aside0.mk (below_step (by repeat (first | (with_reducible first | exact HB.out | apply below_alloc | apply pw_below_drewN | apply below_drew1) | exact HB.out)) hb); clear HB; have HB := n0_; clear n0_; (try clear hb); (try clear hb2); (try clear hk); (try clear hi)))
                                  go_ret
                                  exact ⟨by first | rfl | (simp [errW_none, errW_some] <;> rfl) | (simp [*, errW_none, errW_some] <;> rfl), by repeat (first | (with_reducible first | exact HB.out | apply below_alloc | apply pw_below_drewN | apply below_drew1) | exact HB.out)⟩
                              · rw [if_neg c59] at H
                                have c59b0 : (t115 == (-1)) = false := beq_eq_false_iff_ne.mpr c59
                                have c59b1 : (t115 != (-1)) = true := bne_iff_ne.mpr c59
                                obtain rfl := Option.some.inj H
                                go_wp2_with (first | ((with_reducible refine gate_callee (f := 22) rfl ?_); refine goesL_ (some 100) rfl rfl Try.func22 (by kernel_rfl) rfl #[.string t101, .int .i64 1] rfl (by (try simp only [List.map_toArray, List.map_cons, List.map_nil]); first | done | rfl | (simp only [List.length_drop, List.length_take]; rfl)) ?_; (with_reducible refine (impl_Ancestor.calls kj42 t101 1 t113 t114 _ A54.out).mono ?_); rintro e w70 ⟨rfl, hb⟩; refine ⟨_, rfl, ?_⟩; have n0_ := Aside0.mk (below_step (by repeat (first | (with_reducible first | exact HB.out | apply below_alloc | apply pw_below_drewN | apply below_drew1) | exact HB.out)) hb); clear HB; have HB := n0_; clear n0_; (try clear hb); (try clear hb2); (try clear hk); (try clear hi)) | (go_at_call 20; (with_reducible refine (impl_CompareNames.calls kj42 t113 t101 t115 _ A58.out).mono ?_); rintro e w71 ⟨rfl, hb⟩; have n0_ := Aside0.mk (below_step (by repeat (first | (with_reducible first | exact HB.out | apply below_alloc | apply pw_below_drewN | apply below_drew1) | exact HB.out)) hb); clear HB; have HB := n0_; clear n0_; (try clear hb); (try clear hb2); (try clear hk); (try clear hi)))
                                go_ret
                                exact ⟨by first | rfl | (simp [errW_none, errW_some] <;> rfl) | (simp [*, errW_none, errW_some] <;> rfl), by repeat (first | (with_reducible first | exact HB.out | apply below_alloc | apply pw_below_drewN | apply below_drew1) | exact HB.out)⟩
                            · rw [if_neg c57] at H
                              have c57b0 : (t114 == 0) = false := beq_eq_false_iff_ne.mpr c57
                              have c57b1 : (t114 != 0) = true := bne_iff_ne.mpr c57
                              obtain rfl := Option.some.inj H
                              go_wp2_with (first | ((with_reducible refine gate_callee (f := 22) rfl ?_); refine goesL_ (some 100) rfl rfl Try.func22 (by kernel_rfl) rfl #[.string t101, .int .i64 1] rfl (by (try simp only [List.map_toArray, List.map_cons, List.map_nil]); first | done | rfl | (simp only [List.length_drop, List.length_take]; rfl)) ?_; (with_reducible refine (impl_Ancestor.calls kj42 t101 1 t113 t114 _ A54.out).mono ?_); rintro e w72 ⟨rfl, hb⟩; refine ⟨_, rfl, ?_⟩; have n0_ := Aside0.mk (below_step (by repeat (first | (with_reducible first | exact HB.out | apply below_alloc | apply pw_below_drewN | apply below_drew1) | exact HB.out)) hb); clear HB; have HB := n0_; clear n0_; (try clear hb); (try clear hb2); (try clear hk); (try clear hi)))
                              go_ret
                              exact ⟨by first | rfl | (simp [errW_none, errW_some] <;> rfl) | (simp [*, errW_none, errW_some] <;> rfl), by repeat (first | (with_reducible first | exact HB.out | apply below_alloc | apply pw_below_drewN | apply below_drew1) | exact HB.out)⟩

/-- THE ONE PURE STATEMENT of laws_FnNameOrder: yours. -/
def laws_FnNameOrder.Pure : Prop := ∀ (l0 : List Int) (l1 : List Int), l0.length ≤ maxLen → l0.length * 1 ≤ 140737488351232 → (∀ x ∈ l0, (Lit.int .u8 x).wf = true) → l1.length ≤ maxLen → l1.length * 1 ≤ 140737488351232 → (∀ x ∈ l1, (Lit.int .u8 x).wf = true) → ∃ k, laws_FnNameOrder.f k l0 l1 = some true
theorem laws_FnNameOrder.walk (P : laws_FnNameOrder.Pure) (a0 : Option Addr) (len0 cap0 : Nat) (z0 : List Int) (a1 : Option Addr) (len1 cap1 : Nat) (z1 : List Int) (w : World) (w0 : (a0 = none ∧ len0 = 0 ∧ cap0 = 0 ∧ z0 = []) ∨ ∃ x, a0 = some x ∧ len0 ≤ cap0 ∧ cap0 ≤ maxLen ∧ z0.length = cap0 ∧ (∀ i, i < z0.length → w.cell? (x.add i) = some (.int .u8 (z0.getD i 0))) ∧ ∀ n ∈ z0, (Lit.int .u8 n).wf = true) (y0 : len0 * 1 ≤ 140737488351232) (w1 : (a1 = none ∧ len1 = 0 ∧ cap1 = 0 ∧ z1 = []) ∨ ∃ x, a1 = some x ∧ len1 ≤ cap1 ∧ cap1 ≤ maxLen ∧ z1.length = cap1 ∧ (∀ i, i < z1.length → w.cell? (x.add i) = some (.int .u8 (z1.getD i 0))) ∧ ∀ n ∈ z1, (Lit.int .u8 n).wf = true) (y1 : len1 * 1 ≤ 140737488351232) :
    Calls Try.prog 7 #[.slice a0 len0 cap0, .slice a1 len1 cap1] w fun e w' => e = .returned (.bool true) ∧ Below w.heap.size w w' := by
  obtain ⟨l0, rfl, hr0, hm0, hw0, hc0⟩ := ReadsInt.ofRowC w0
  obtain ⟨l1, rfl, hr1, hm1, hw1, hc1⟩ := ReadsInt.ofRowC w1
  obtain ⟨k, h⟩ := P l0 l1 hm0 y0 hw0 hm1 y1 hw1
  refine (laws_FnNameOrder.calls k _ _ l0 _ _ l1 true w (Kd.C_of_reads (d := (0 : Int)) (h1 := fun _ => rfl) hr0) hc0 (Kd.C_of_reads (d := (0 : Int)) (h1 := fun _ => rfl) hr1) hc1 h).mono ?_
  rintro e w' ⟨rfl, hd⟩
  exact ⟨rfl, hd⟩

end Go.Proofs.Ytpbmnokmpihnjaa.F
namespace Go.Proofs.Ytpbmnokmpihnjaa.Base
open Go.RowKit Go.Proofs.YtpbmnokmpihnjaaW.PrintWords Go.Proofs.YtpbmnokmpihnjaaW.PrintMore

theorem w64 {x : Int} (h0 : -9223372036854775808 ≤ x) (h1 : x ≤ 9223372036854775807) : wrap64 x = x := by
  unfold wrap64
  omega

def L (s : ByteArray) : List UInt8 := s.data.toList
def B (l : List UInt8) : ByteArray := ⟨l.toArray⟩
theorem L_B (l : List UInt8) : L (B l) = l := by simp [L, B]
theorem B_L (s : ByteArray) : B (L s) = s := by simp [L, B]
theorem L_inj {a b : ByteArray} (h : L a = L b) : a = b := by rw [← B_L a, ← B_L b, h]
theorem L_iff {a b : ByteArray} : L a = L b ↔ a = b := ⟨L_inj, fun h => by rw [h]⟩
theorem size_L (s : ByteArray) : s.size = (L s).length := by simp [L]
theorem toL (s : ByteArray) : s.toList = L s := Lib.toList_data s
theorem L_extract (s : ByteArray) (i j : Nat) : L (s.extract i j) = ((L s).drop i).take (j - i) := by
  simp [L, ByteArray.data_extract]
theorem L_append (a b : ByteArray) : L (a ++ b) = L a ++ L b := by
  simp [L, ByteArray.data_append]
theorem bt_L (s : ByteArray) (i : Int) : bt s i = (((L s).getD i.toNat 0).toNat : Int) := by
  unfold bt
  split
  · rename_i h
    have h' : i.toNat < (L s).length := by rw [← size_L]; exact h
    rw [List.getD_eq_getElem?_getD, List.getElem?_eq_getElem h']
    rfl
  · rename_i h
    have h' : (L s).length ≤ i.toNat := by rw [← size_L]; omega
    rw [List.getD_eq_getElem?_getD, List.getElem?_eq_none h']
    rfl
theorem bt_mid {x : ByteArray} {p : List UInt8} {c : UInt8} {r : List UInt8} (h : L x = p ++ c :: r) {i : Int} (hi : i = (p.length : Int)) : bt x i = (c.toNat : Int) := by
  rw [bt_L, h, hi]
  simp [List.getD_eq_getElem?_getD]
theorem bt_cons {x : ByteArray} {c : UInt8} {r : List UInt8} (h : L x = c :: r) : bt x 0 = (c.toNat : Int) := bt_mid (p := []) h rfl
theorem L_strOfNums (xs : List Int) : L (strOfNums xs) = xs.map fun n => UInt8.ofNat n.toNat := by simp [L, strOfNums]
theorem byte_le (c : UInt8) : (c.toNat : Int) ≤ 255 := by have := c.toNat_lt; omega
theorem byte_id (c : UInt8) : UInt8.ofNat ((c.toNat : Int)).toNat = c := by simp

theorem drop_len {α : Type} (p t : List α) (k : Nat) : (p ++ t).drop (p.length + k) = t.drop k := by
  rw [List.drop_append, List.drop_eq_nil_of_le (by omega), List.nil_append, Nat.add_sub_cancel_left]
theorem getD_len {α : Type} (p t : List α) (k : Nat) (d : α) : (p ++ t).getD (p.length + k) d = t.getD k d := by
  simp [List.getD_eq_getElem?_getD, List.getElem?_append_right]

/-- The labels of a name's bytes; none: they are no name (but for the limit on the whole). -/
def labs : List UInt8 → Option (List ByteArray)
  | [] => none
  | c :: r => if c.toNat = 0 then (if r = [] then some [] else none) else if 63 < c.toNat then none else if r.length < c.toNat then none else (labs (r.drop c.toNat)).map (B (r.take c.toNat) :: ·)
  termination_by l => l.length
  decreasing_by simp; omega

/-- The labels of a name. -/
def names (l : List UInt8) : Option (List ByteArray) := if l.length < 1 ∨ 255 < l.length then none else labs l

/-- What a cut in labels answers that had come to some. -/
def res (acc : List ByteArray) : Option (List ByteArray) → List ByteArray × Bool
  | none => ([], false)
  | some ls => (acc ++ ls, true)
theorem res_map (acc : List ByteArray) (b : ByteArray) (o : Option (List ByteArray)) : res acc (o.map (b :: ·)) = res (acc ++ [b]) o := by
  cases o <;> simp [res]

/-- What the other cut in labels leaves where it fails. -/
def jk (acc : List ByteArray) : List UInt8 → List ByteArray
  | [] => []
  | c :: r => if c.toNat = 0 then acc else if 63 < c.toNat then [] else if r.length < c.toNat then [] else jk (acc ++ [B (r.take c.toNat)]) (r.drop c.toNat)
  termination_by l => l.length
  decreasing_by simp; omega
def res2 (acc : List ByteArray) (l : List UInt8) : List ByteArray × Bool := match labs l with
  | none => (jk acc l, false)
  | some ls => (acc ++ ls, true)
theorem labs_count : ∀ (n : Nat) (l : List UInt8), l.length ≤ n → ∀ ls, labs l = some ls → ls.length + 1 ≤ l.length := by
  intro n
  induction n with
  | zero =>
    intro l hl ls h
    obtain rfl : l = [] := List.length_eq_zero_iff.1 (by omega)
    simp [labs] at h
  | succ n ih =>
    intro l hl ls h
    cases l with
    | nil => simp [labs] at h
    | cons c r =>
      simp only [List.length_cons] at hl ⊢
      rw [labs] at h
      by_cases h0 : c.toNat = 0
      · rw [if_pos h0] at h
        by_cases hr : r = []
        · rw [if_pos hr] at h
          obtain rfl := Option.some.inj h
          simp
        · rw [if_neg hr] at h
          cases h
      · rw [if_neg h0] at h
        by_cases h63 : 63 < c.toNat
        · rw [if_pos h63] at h
          cases h
        · rw [if_neg h63] at h
          by_cases hl2 : r.length < c.toNat
          · rw [if_pos hl2] at h
            cases h
          · rw [if_neg hl2] at h
            obtain ⟨t, ht, rfl⟩ := Option.map_eq_some_iff.1 h
            have := ih (r.drop c.toNat) (by simp; omega) t ht
            simp at this ⊢
            omega
theorem names_count {l : List UInt8} {ls : List ByteArray} (h : names l = some ls) : ls.length ≤ 254 := by
  unfold names at h
  split at h
  · cases h
  · have := labs_count _ l (Nat.le_refl _) ls h
    omega
end Go.Proofs.Ytpbmnokmpihnjaa.Base
namespace Go.Proofs.Ytpbmnokmpihnjaa.Base
open Go Go.RowKit Go.Proofs.YtpbmnokmpihnjaaW.PrintWords Go.Proofs.YtpbmnokmpihnjaaW.PrintMore

def low (c : UInt8) : UInt8 := if 65 ≤ c.toNat ∧ c.toNat ≤ 90 then UInt8.ofNat (c.toNat + 32) else c
theorem low_toNat (c : UInt8) : (low c).toNat = if 65 ≤ c.toNat ∧ c.toNat ≤ 90 then c.toNat + 32 else c.toNat := by
  unfold low
  split
  · rw [UInt8.toNat_ofNat']
    omega
  · rfl
theorem low_small {c : UInt8} (h : c.toNat ≤ 64) : low c = c := by
  unfold low
  rw [if_neg (by omega)]
theorem low_low (c : UInt8) : low (low c) = low c := by
  apply UInt8.toNat_inj.1
  rw [low_toNat (low c), low_toNat c]
  by_cases h : 65 ≤ c.toNat ∧ c.toNat ≤ 90
  · rw [if_pos h, if_neg (by omega)]
  · rw [if_neg h, if_neg h]
def foldB (s : ByteArray) : ByteArray := B ((L s).map low)
theorem L_foldB (s : ByteArray) : L (foldB s) = (L s).map low := L_B _
theorem foldB_size (s : ByteArray) : (foldB s).size = s.size := by rw [size_L, size_L, L_foldB, List.length_map]
theorem foldB_foldB (s : ByteArray) : foldB (foldB s) = foldB s := by
  apply L_inj
  rw [L_foldB, L_foldB, List.map_map]
  exact List.map_congr_left fun c _ => low_low c
def joinL (ls : List ByteArray) : List UInt8 := ls.flatMap fun s => UInt8.ofNat s.size :: L s
def join (ls : List ByteArray) : ByteArray := B (joinL ls ++ [0])
theorem joinL_cons (s : ByteArray) (t : List ByteArray) : joinL (s :: t) = UInt8.ofNat s.size :: (L s ++ joinL t) := by simp [joinL]
theorem joinL_append (a b : List ByteArray) : joinL (a ++ b) = joinL a ++ joinL b := by simp [joinL]
theorem L_join (ls : List ByteArray) : L (join ls) = joinL ls ++ [0] := L_B _
theorem size_join (ls : List ByteArray) : (join ls).size = (joinL ls).length + 1 := by rw [size_L, L_join]; simp
/-- A name's bytes are its labels joined, and each label has from 1 to 63 bytes. -/
theorem labs_join : ∀ (n : Nat) (l : List UInt8), l.length ≤ n → ∀ ls, labs l = some ls → l = joinL ls ++ [0] ∧ ∀ s ∈ ls, 1 ≤ s.size ∧ s.size ≤ 63 := by
  intro n
  induction n with
  | zero =>
    intro l hl ls h
    obtain rfl : l = [] := List.length_eq_zero_iff.1 (by omega)
    simp [labs] at h
  | succ n ih =>
    intro l hl ls h
    cases l with
    | nil => simp [labs] at h
    | cons c r =>
      simp only [List.length_cons] at hl
      rw [labs] at h
      by_cases h0 : c.toNat = 0
      · rw [if_pos h0] at h
        by_cases hr : r = []
        · rw [if_pos hr] at h
          obtain rfl := Option.some.inj h
          subst hr
          have : c = 0 := UInt8.toNat_inj.1 h0
          subst this
          exact ⟨by simp [joinL], by simp⟩
        · rw [if_neg hr] at h; cases h
      · rw [if_neg h0] at h
        by_cases h63 : 63 < c.toNat
        · rw [if_pos h63] at h; cases h
        · rw [if_neg h63] at h
          by_cases hl2 : r.length < c.toNat
          · rw [if_pos hl2] at h; cases h
          · rw [if_neg hl2] at h
            obtain ⟨t, ht, rfl⟩ := Option.map_eq_some_iff.1 h
            obtain ⟨h1, h2⟩ := ih (r.drop c.toNat) (by simp; omega) t ht
            have hs : (B (r.take c.toNat)).size = c.toNat := by rw [size_L, L_B, List.length_take]; omega
            refine ⟨?_, ?_⟩
            · rw [joinL_cons, hs, L_B, List.cons_append, List.append_assoc, ← h1, List.take_append_drop]
              simp
            · intro s hm
              rcases List.mem_cons.1 hm with rfl | hm
              · rw [hs]; omega
              · exact h2 s hm
theorem names_join {l : List UInt8} {ls : List ByteArray} (h : names l = some ls) : l = joinL ls ++ [0] ∧ (∀ s ∈ ls, 1 ≤ s.size ∧ s.size ≤ 63) ∧ l.length ≤ 255 := by
  unfold names at h
  split at h
  · cases h
  · obtain ⟨h1, h2⟩ := labs_join _ l (Nat.le_refl _) ls h
    exact ⟨h1, h2, by omega⟩
/-- Labels of good length, joined, are cut into just these labels. -/
theorem labs_of_join : ∀ (ls : List ByteArray), (∀ s ∈ ls, 1 ≤ s.size ∧ s.size ≤ 63) → labs (joinL ls ++ [0]) = some ls := by
  intro ls
  induction ls with
  | nil => intro _; simp [joinL, labs]
  | cons s t ih =>
    intro h
    have hs := h s (by simp)
    have ht := ih fun x hx => h x (by simp [hx])
    have hl := size_L s
    have hn : (UInt8.ofNat s.size).toNat = s.size := by rw [UInt8.toNat_ofNat']; omega
    rw [joinL_cons, List.cons_append, labs, hn, if_neg (by omega), if_neg (by omega), if_neg (by simp; omega)]
    have e1 : (L s ++ joinL t ++ [0]).drop s.size = joinL t ++ [0] := by rw [List.append_assoc, hl, List.drop_left]
    have e2 : (L s ++ joinL t ++ [0]).take s.size = L s := by rw [List.append_assoc, hl, List.take_left]
    rw [e1, e2, ht, B_L]
    rfl
theorem names_of_join {ls : List ByteArray} (h : ∀ s ∈ ls, 1 ≤ s.size ∧ s.size ≤ 63) (hn : (joinL ls).length + 1 ≤ 255) : names (joinL ls ++ [0]) = some ls := by
  unfold names
  rw [if_neg (by simp; omega), labs_of_join ls h]
theorem joinL_fold : ∀ (ls : List ByteArray), (∀ s ∈ ls, s.size ≤ 63) → (joinL ls).map low = joinL (ls.map foldB) := by
  intro ls
  induction ls with
  | nil => intro _; simp [joinL]
  | cons s t ih =>
    intro h
    have hs := h s (by simp)
    rw [joinL_cons, List.map_cons, List.map_append, ih fun x hx => h x (by simp [hx]), List.map_cons, joinL_cons, foldB_size, L_foldB, low_small (by rw [UInt8.toNat_ofNat']; omega)]
theorem fold_join {ls : List ByteArray} (h : ∀ s ∈ ls, s.size ≤ 63) : foldB (join ls) = join (ls.map foldB) := by
  apply L_inj
  rw [L_foldB, L_join, L_join, List.map_append, joinL_fold ls h]
  simp [low_small]
theorem join_names {a : ByteArray} {ls : List ByteArray} (h : names (L a) = some ls) : join ls = a := L_inj (by rw [L_join, ← (names_join h).1])
theorem mem_size {ls : List ByteArray} (h : ∀ s ∈ ls, 1 ≤ s.size ∧ s.size ≤ 63) : ∀ s ∈ ls, s.size ≤ 63 := fun s hs => (h s hs).2
theorem joinL_len_fold (ls : List ByteArray) : (joinL (ls.map foldB)).length = (joinL ls).length := by
  induction ls with
  | nil => rfl
  | cons s t ih => rw [List.map_cons, joinL_cons, joinL_cons]; simp [ih, L_foldB]
theorem joinL_len_drop (ls : List ByteArray) (n : Nat) : (joinL (ls.drop n)).length ≤ (joinL ls).length := by
  have h : joinL ls = joinL (ls.take n) ++ joinL (ls.drop n) := by rw [← joinL_append, List.take_append_drop]
  rw [h, List.length_append]; omega
theorem joinL_len_ge (ls : List ByteArray) : ls.length ≤ (joinL ls).length := by
  induction ls with
  | nil => simp
  | cons s t ih => rw [joinL_cons]; simp; omega
theorem mem_len_le {ls : List ByteArray} {s : ByteArray} (h : s ∈ ls) : s.size ≤ (joinL ls).length := by
  induction ls with
  | nil => cases h
  | cons x t ih =>
    rw [joinL_cons, size_L]
    rcases List.mem_cons.1 h with rfl | h
    · simp; omega
    · have := ih h
      rw [size_L] at this
      simp; omega
def sameN (a b : ByteArray) : Bool := (names (L a)).isSome && ((names (L b)).isSome && (L (foldB a) == L (foldB b)))
theorem foldB_ne {a : ByteArray} {ls : List ByteArray} (h : names (L a) = some ls) : L (foldB a) ≠ [] := by
  rw [L_foldB, (names_join h).1]
  simp
/-- A name without its first labels. -/
def ancN (o : Option (List ByteArray)) (n : Int) : ByteArray × Int := match o with
  | none => (⟨#[]⟩, 32)
  | some ls => if n < 0 ∨ n > (ls.length : Int) then (⟨#[]⟩, 32) else (join (ls.drop n.toNat), 0)
/-- The order of two names by their labels from the right, given turned round. -/
def cmpR : List ByteArray → List ByteArray → Int
  | [], [] => 0
  | [], _ :: _ => -1
  | _ :: _, [] => 1
  | a :: x, b :: y => if Lib.compareBytes (L (foldB a)) (L (foldB b)) = 0 then cmpR x y else Lib.compareBytes (L (foldB a)) (L (foldB b))
/-- The order of two names. -/
def cmpN (a b : ByteArray) : Int := match names (L a), names (L b) with
  | some x, some y => cmpR x.reverse y.reverse
  | _, _ => 0
theorem rev_drop (l : List ByteArray) (i : Nat) (h : i < l.length) : l.reverse.drop i = l.getD (l.length - (i + 1)) ByteArray.empty :: l.reverse.drop (i + 1) := by
  rw [List.drop_eq_getElem_cons (by simpa using h)]
  congr 1
  rw [List.getElem_reverse, List.getD_eq_getElem?_getD, List.getElem?_eq_getElem (by omega)]
  simp only [Option.getD_some]
  congr 1
  omega
/-- The name that labels make. -/
def mkN (ls : List ByteArray) : ByteArray × Int := if 127 < ls.length then (⟨#[]⟩, 3) else if ∃ s ∈ ls, s.size < 1 ∨ 63 < s.size then (⟨#[]⟩, 2) else if 255 < (joinL ls).length + 1 then (⟨#[]⟩, 3) else (join ls, 0)
def GoodL (ls : List ByteArray) : Prop := ∀ s ∈ ls, 1 ≤ s.size ∧ s.size ≤ 63
theorem join_inj {x y : List ByteArray} (hx : GoodL x) (hy : GoodL y) (h : join x = join y) : x = y := by
  have h2 : labs (L (join x)) = labs (L (join y)) := by rw [h]
  rw [L_join, L_join, labs_of_join x hx, labs_of_join y hy] at h2
  exact Option.some.inj h2
theorem GoodL.fold {x : List ByteArray} (hx : GoodL x) : GoodL (x.map foldB) := by
  intro s hs
  obtain ⟨t, ht, rfl⟩ := List.mem_map.1 hs
  rw [foldB_size]
  exact hx t ht
theorem GoodL.drop {x : List ByteArray} (hx : GoodL x) (n : Nat) : GoodL (x.drop n) := fun s hs => hx s (List.mem_of_mem_drop hs)
theorem GoodL.take {x : List ByteArray} (hx : GoodL x) (n : Nat) : GoodL (x.take n) := fun s hs => hx s (List.mem_of_mem_take hs)
theorem GoodL.append {x y : List ByteArray} (hx : GoodL x) (hy : GoodL y) : GoodL (x ++ y) := fun s hs => (List.mem_append.1 hs).elim (hx s) (hy s)
theorem foldB_join_iff {x y : List ByteArray} (hx : GoodL x) (hy : GoodL y) : foldB (join x) = foldB (join y) ↔ x.map foldB = y.map foldB := by
  rw [fold_join (mem_size hx), fold_join (mem_size hy)]
  exact ⟨join_inj hx.fold hy.fold, fun h => by rw [h]⟩
theorem names_good {a : ByteArray} {ls : List ByteArray} (h : names (L a) = some ls) : GoodL ls ∧ join ls = a ∧ (joinL ls).length + 1 ≤ 255 := by
  obtain ⟨h1, h2, h3⟩ := names_join h
  exact ⟨h2, join_names h, by rw [h1] at h3; simpa using h3⟩
theorem joinL_good_ge : ∀ {ls : List ByteArray}, GoodL ls → 2 * ls.length ≤ (joinL ls).length := by
  intro ls
  induction ls with
  | nil => intro _; simp
  | cons s t ih =>
    intro h
    have h1 := h s (by simp)
    have h2 := ih fun x hx => h x (by simp [hx])
    have := size_L s
    rw [joinL_cons]
    simp only [List.length_cons, List.length_append]
    omega
/-- The name of good labels. -/
def mkG (ls : List ByteArray) : ByteArray × Int := if 255 < (joinL ls).length + 1 then (⟨#[]⟩, 3) else (join ls, 0)
theorem mkN_good {ls : List ByteArray} (h : GoodL ls) : mkN ls = mkG ls := by
  have hl := joinL_good_ge h
  have hne : ¬ ∃ s ∈ ls, s.size < 1 ∨ 63 < s.size := by
    rintro ⟨s, hs, hb⟩
    have := h s hs
    omega
  unfold mkN mkG
  by_cases h1 : 127 < ls.length
  · rw [if_pos h1, if_pos (by omega)]
  · rw [if_neg h1, if_neg hne]
/-- Is a name another one or below it: by their labels. -/
def underL (x y : List ByteArray) : Bool := decide (y.length ≤ x.length ∧ (x.drop (x.length - y.length)).map foldB = y.map foldB)
def underN (a b : ByteArray) : Bool := match names (L a), names (L b) with
  | some x, some y => underL x y
  | _, _ => false
theorem sameN_iff {a b : ByteArray} {x y : List ByteArray} (hx : names (L a) = some x) (hy : names (L b) = some y) : sameN a b = decide (x.map foldB = y.map foldB) := by
  obtain ⟨gx, jx, _⟩ := names_good hx
  obtain ⟨gy, jy, _⟩ := names_good hy
  unfold sameN
  rw [hx, hy]
  simp only [Option.isSome_some, Bool.true_and]
  by_cases h : x.map foldB = y.map foldB
  · rw [decide_eq_true h, beq_iff_eq, ← jx, ← jy, (foldB_join_iff gx gy).2 h]
  · rw [decide_eq_false h, beq_eq_false_iff_ne]
    intro e
    rw [← jx, ← jy] at e
    exact h ((foldB_join_iff gx gy).1 (L_inj e))
/-- A name put below another one. -/
def tailN (a b c : ByteArray) : ByteArray × Int := match names (L a), names (L b), names (L c) with
  | some x, some y, some z => if underL x y = true ∧ x.length ≠ y.length then mkG (x.take (x.length - y.length) ++ z) else (⟨#[]⟩, 22)
  | _, _, _ => (⟨#[]⟩, 32)
end Go.Proofs.Ytpbmnokmpihnjaa.Base
namespace Go.Proofs.Ytpbmnokmpihnjaa.Base
open Go Go.RowKit Go.Proofs.YtpbmnokmpihnjaaW.PrintWords Go.Proofs.YtpbmnokmpihnjaaW.PrintMore
/-- A comparison that tells -1, 0, 1, and is an order. -/
structure OrdC {α : Type} (f : α → α → Int) : Prop where
  r : ∀ a b, f a b = -1 ∨ f a b = 0 ∨ f a b = 1
  z : ∀ a b, f a b = 0 ↔ a = b
  n : ∀ a b, f a b = - f b a
  t : ∀ a b c, f a b = -1 → f b c = -1 → f a c = -1
theorem OrdC.le {α : Type} {f : α → α → Int} (h : OrdC f) (a b c : α) (h1 : f a b ≤ 0) (h2 : f b c ≤ 0) : f a c ≤ 0 := by
  rcases h.r a b with e | e | e
  · rcases h.r b c with e2 | e2 | e2
    · have := h.t a b c e e2; omega
    · rw [← (h.z b c).1 e2, e]; decide
    · omega
  · rw [(h.z a b).1 e]; exact h2
  · omega
theorem OrdC.ge {α : Type} {f : α → α → Int} (h : OrdC f) (a b c : α) (h1 : 0 ≤ f a b) (h2 : 0 ≤ f b c) : 0 ≤ f a c := by
  have e1 := h.n a b
  have e2 := h.n b c
  have e3 := h.n a c
  have := h.le c b a (by omega) (by omega)
  omega
def lexC {α : Type} (f : α → α → Int) : List α → List α → Int
  | [], [] => 0
  | [], _ :: _ => -1
  | _ :: _, [] => 1
  | a :: x, b :: y => if f a b = 0 then lexC f x y else f a b
theorem OrdC.lex {α : Type} {f : α → α → Int} (h : OrdC f) : OrdC (lexC f) where
  r := by
    intro x
    induction x with
    | nil => intro y; cases y <;> simp [lexC]
    | cons a x ih =>
      intro y
      cases y with
      | nil => simp [lexC]
      | cons b y =>
        rw [lexC]
        split
        · exact ih y
        · exact h.r a b
  z := by
    intro x
    induction x with
    | nil => intro y; cases y <;> simp [lexC]
    | cons a x ih =>
      intro y
      cases y with
      | nil => simp [lexC]
      | cons b y =>
        rw [lexC]
        split
        · rename_i e
          rw [ih y, (h.z a b).1 e]
          simp
        · rename_i e
          constructor
          · intro e2; exact absurd e2 e
          · intro e2; injection e2 with e3 e4; exact absurd ((h.z a b).2 e3) e
  n := by
    intro x
    induction x with
    | nil => intro y; cases y <;> simp [lexC]
    | cons a x ih =>
      intro y
      cases y with
      | nil => simp [lexC]
      | cons b y =>
        rw [lexC, lexC]
        have hn := h.n a b
        by_cases e : f a b = 0
        · rw [if_pos e, if_pos (by omega), ih y]
        · rw [if_neg e, if_neg (by omega), hn]
  t := by
    intro x
    induction x with
    | nil =>
      intro y z h1 h2
      cases y with
      | nil => simp [lexC] at h1
      | cons b y =>
        cases z with
        | nil => simp [lexC] at h2
        | cons c z => simp [lexC]
    | cons a x ih =>
      intro y z h1 h2
      cases y with
      | nil => simp [lexC] at h1
      | cons b y =>
        cases z with
        | nil => simp [lexC] at h2
        | cons c z =>
          rw [lexC] at h1 h2 ⊢
          by_cases e1 : f a b = 0
          · rw [if_pos e1] at h1
            have e1' := (h.z a b).1 e1
            subst e1'
            by_cases e2 : f a c = 0
            · rw [if_pos e2] at h2
              rw [if_pos e2]
              exact ih y z h1 h2
            · rw [if_neg e2] at h2
              rw [if_neg e2]
              exact h2
          · rw [if_neg e1] at h1
            by_cases e2 : f b c = 0
            · have e2' := (h.z b c).1 e2
              subst e2'
              rw [if_neg e1]
              exact h1
            · rw [if_neg e2] at h2
              have e3 := h.t a b c h1 h2
              rw [if_neg (by omega)]
              exact e3
def cmpU (a b : UInt8) : Int := if a < b then -1 else if b < a then 1 else 0
theorem cmpU_ord : OrdC cmpU where
  r := by intro a b; unfold cmpU; split; exact .inl rfl; split; exact .inr (.inr rfl); exact .inr (.inl rfl)
  z := by
    intro a b
    have hx : a = b ↔ a.toNat = b.toNat := UInt8.toNat_inj.symm
    simp only [cmpU, UInt8.lt_iff_toNat_lt, hx]
    split
    · constructor <;> intro h <;> omega
    · split
      · constructor <;> intro h <;> omega
      · constructor <;> intro h <;> omega
  n := by
    intro a b
    simp only [cmpU, UInt8.lt_iff_toNat_lt]
    repeat' split
    all_goals first | rfl | omega
  t := by
    intro a b c
    simp only [cmpU, UInt8.lt_iff_toNat_lt]
    intro h1 h2
    have k1 : a.toNat < b.toNat := by
      by_cases h : a.toNat < b.toNat
      · exact h
      · rw [if_neg h] at h1; split at h1 <;> cases h1
    have k2 : b.toNat < c.toNat := by
      by_cases h : b.toNat < c.toNat
      · exact h
      · rw [if_neg h] at h2; split at h2 <;> cases h2
    rw [if_pos (by omega)]
theorem compareBytes_lex : ∀ a b, Lib.compareBytes a b = lexC cmpU a b := by
  intro a
  induction a with
  | nil => intro b; cases b <;> rfl
  | cons c a ih =>
    intro b
    cases b with
    | nil => rfl
    | cons d b =>
      rw [Lib.compareBytes, lexC, ih b]
      unfold cmpU
      by_cases h1 : c < d
      · rw [if_pos h1, if_pos h1, if_neg (by decide)]
      · rw [if_neg h1, if_neg h1]
        by_cases h2 : d < c
        · rw [if_pos h2, if_pos h2, if_neg (by decide)]
        · rw [if_neg h2, if_neg h2, if_pos rfl]
theorem cmpB_ord : OrdC Lib.compareBytes := by
  have e : Lib.compareBytes = lexC cmpU := funext fun a => funext fun b => compareBytes_lex a b
  rw [e]
  exact cmpU_ord.lex
theorem cmpR_lex : ∀ x y, cmpR x y = lexC Lib.compareBytes (x.map fun s => L (foldB s)) (y.map fun s => L (foldB s)) := by
  intro x
  induction x with
  | nil => intro y; cases y <;> rfl
  | cons a x ih =>
    intro y
    cases y with
    | nil => rfl
    | cons b y => rw [cmpR, List.map_cons, List.map_cons, lexC, ih y]
theorem cmpR_zero (x y : List ByteArray) : cmpR x.reverse y.reverse = 0 ↔ x.map foldB = y.map foldB := by
  rw [cmpR_lex, cmpB_ord.lex.z, List.map_reverse, List.map_reverse, List.reverse_inj]
  constructor
  · intro h
    have h2 : (x.map fun s => L (foldB s)).map B = (y.map fun s => L (foldB s)).map B := by rw [h]
    simpa [List.map_map, Function.comp_def, B_L] using h2
  · intro h
    have h2 : (x.map foldB).map L = (y.map foldB).map L := by rw [h]
    simpa [List.map_map, Function.comp_def] using h2
theorem cmpR_longer : ∀ (x : List ByteArray) (s : ByteArray), cmpR x (x ++ [s]) = -1 := by
  intro x s
  induction x with
  | nil => rfl
  | cons a x ih => rw [List.cons_append, cmpR, if_pos ((cmpB_ord.z _ _).2 rfl), ih]
end Go.Proofs.Ytpbmnokmpihnjaa.Base
namespace Go.Proofs.Ytpbmnokmpihnjaa.Pure
open Go.RowKit Go.Proofs.Ytpbmnokmpihnjaa.F Go.Proofs.Ytpbmnokmpihnjaa.Base Go.Proofs.YtpbmnokmpihnjaaW.PrintWords Go.Proofs.YtpbmnokmpihnjaaW.PrintLast Go.Proofs.YtpbmnokmpihnjaaW.PrintMore
set_option linter.unusedVariables false
set_option linter.unusedSimpArgs false
-- base: BaseName
theorem impl_joined_eq (l : List ByteArray) (hb : (joinL l).length ≤ 1000000000) : impl_joined.f l = some (join l) := by
  have hll := joinL_len_ge l
  have e : joinB l = joinL l := rfl
  unfold impl_joined.f
  rw [e, if_pos (by omega)]
  rfl

end Go.Proofs.Ytpbmnokmpihnjaa.Pure
namespace Go.Proofs.Ytpbmnokmpihnjaa.Pure
open Go.RowKit Go.Proofs.Ytpbmnokmpihnjaa.F Go.Proofs.Ytpbmnokmpihnjaa.Base Go.Proofs.YtpbmnokmpihnjaaW.PrintWords Go.Proofs.YtpbmnokmpihnjaaW.PrintLast Go.Proofs.YtpbmnokmpihnjaaW.PrintMore
set_option linter.unusedVariables false
set_option linter.unusedSimpArgs false
theorem impl_labelsOf_l0 (x : ByteArray) (hx255 : x.size ≤ 255) : ∀ (n k : Nat) (acc : List ByteArray) (p r : List UInt8), L x = p ++ r → r.length ≤ n → n < k → acc.length + r.length ≤ 300 → impl_labelsOf.l0 k x acc (p.length : Int) = some (res2 acc r) := by
  intro n
  induction n with
  | zero =>
    intro k acc p r hx hn hk hb
    obtain ⟨k, rfl⟩ : ∃ m, k = m + 1 := ⟨k - 1, by omega⟩
    obtain rfl : r = [] := List.length_eq_zero_iff.1 (by omega)
    have hs := size_L x
    rw [hx] at hs
    simp only [List.append_nil] at hs
    simp only [impl_labelsOf.l0]
    rw [if_neg (by omega)]
    simp [res2, labs, jk]
  | succ n ih =>
    intro k acc p r hx hn hk hb
    obtain ⟨k, rfl⟩ : ∃ m, k = m + 1 := ⟨k - 1, by omega⟩
    have hs := size_L x
    rw [hx] at hs
    simp only [impl_labelsOf.l0]
    cases r with
    | nil =>
      simp only [List.append_nil] at hs
      rw [if_neg (by omega)]
      simp [res2, labs, jk]
    | cons c r =>
      simp only [List.length_append, List.length_cons] at hs hn hb
      have hc := byte_le c
      rw [bt_mid hx rfl, if_pos (by omega), if_pos (by omega)]
      simp (maxSteps := 10000000) (disch := omega) only [w64]
      have hL := labs.eq_2 c r
      have hJ := jk.eq_2 acc c r
      unfold res2
      rw [hL, hJ]
      clear hL hJ
      by_cases h0 : c.toNat = 0
      · rw [if_pos (by omega), if_pos h0, if_pos h0]
        by_cases hr : r = []
        · rw [if_pos hr]
          subst hr
          simp at hs
          simp; omega
        · rw [if_neg hr]
          have : r.length ≠ 0 := fun h => hr (List.length_eq_zero_iff.1 h)
          simp; omega
      · rw [if_neg (by omega), if_neg h0, if_neg h0]
        by_cases h63 : 63 < c.toNat
        · rw [if_pos (by omega), if_pos h63, if_pos h63]
        · rw [if_neg (by omega), if_neg h63, if_neg h63]
          by_cases hl : r.length < c.toNat
          · rw [if_pos (by omega), if_pos hl, if_pos hl]
          · rw [if_neg (by omega), if_neg hl, if_neg hl, if_pos (by omega), if_pos (by omega), if_pos (by omega), if_pos (by omega)]
            have e0 : ((p.length : Int) + 1).toNat = p.length + 1 := by omega
            have e0' : ((p.length : Int) + 1 + (c.toNat : Int)).toNat = p.length + 1 + c.toNat := by omega
            rw [e0, e0']
            have e1 : x.extract (p.length + 1) (p.length + 1 + c.toNat) = B (r.take c.toNat) := L_inj (by
              rw [L_extract, hx, L_B, drop_len]
              simp)
            have e2 : (p.length : Int) + (1 + (c.toNat : Int)) = ((p ++ c :: r.take c.toNat).length : Int) := by
              simp [List.length_take]; omega
            rw [e1, e2, ih k _ (p ++ c :: r.take c.toNat) (r.drop c.toNat) (by rw [hx]; simp) (by simp; omega) (by omega) (by simp; omega)]
            unfold res2
            cases labs (List.drop c.toNat r) <;> simp
theorem impl_labelsOf_eq (a : ByteArray) (k : Nat) (hk : 400 ≤ k) : impl_labelsOf.f k a = some (match names (L a) with | none => ((impl_labelsOf.f 400 a).getD ([], false)) | some ls => (ls, true)) ∧ (names (L a) = none → ((impl_labelsOf.f 400 a).getD ([], false)).2 = false) := by
  have hs := size_L a
  have key : ∀ k, 400 ≤ k → impl_labelsOf.f k a = if 255 < (L a).length then some ([], false) else some (res2 [] (L a)) := by
    intro k hk
    unfold impl_labelsOf.f
    by_cases h2 : 255 < (L a).length
    · rw [if_pos (by omega), if_pos h2]
    · rw [if_neg (by omega), if_neg h2]
      exact impl_labelsOf_l0 a (by omega) (L a).length k [] [] (L a) rfl (Nat.le_refl _) (by omega) (by simp; omega)
  rw [key k hk, key 400 (Nat.le_refl _)]
  unfold names
  by_cases h1 : (L a).length < 1
  · have h0 : L a = [] := List.length_eq_zero_iff.1 (by omega)
    rw [if_neg (by omega), if_pos (by omega), h0]
    simp [res2, labs, jk]
  · by_cases h2 : 255 < (L a).length
    · rw [if_pos h2, if_pos (by omega)]; simp
    · rw [if_neg h2, if_neg (by omega)]
      unfold res2
      cases labs (L a) <;> simp
theorem impl_labelsOf_some {a : ByteArray} {ls : List ByteArray} (h : names (L a) = some ls) (k : Nat) (hk : 400 ≤ k) : impl_labelsOf.f k a = some (ls, true) := by
  have := (impl_labelsOf_eq a k hk).1
  rw [h] at this
  exact this
theorem impl_labelsOf_none {a : ByteArray} (h : names (L a) = none) (k : Nat) (hk : 400 ≤ k) : impl_labelsOf.f k a = some (((impl_labelsOf.f 400 a).getD ([], false)).1, false) := by
  obtain ⟨h1, h2⟩ := impl_labelsOf_eq a k hk
  rw [h] at h1
  rw [h1]
  exact congrArg some (Prod.ext rfl (h2 h))

end Go.Proofs.Ytpbmnokmpihnjaa.Pure
namespace Go.Proofs.Ytpbmnokmpihnjaa.Pure
open Go.RowKit Go.Proofs.Ytpbmnokmpihnjaa.F Go.Proofs.Ytpbmnokmpihnjaa.Base Go.Proofs.YtpbmnokmpihnjaaW.PrintWords Go.Proofs.YtpbmnokmpihnjaaW.PrintLast Go.Proofs.YtpbmnokmpihnjaaW.PrintMore
set_option linter.unusedVariables false
set_option linter.unusedSimpArgs false
-- base: BaseName
theorem impl_Ancestor_eq (a : ByteArray) (n : Int) (k : Nat) (hk : 400 ≤ k) : impl_Ancestor.f k a n = some (ancN (names (L a)) n) := by
  unfold impl_Ancestor.f ancN
  cases h : names (L a) with
  | none => rw [impl_labelsOf_none h k hk]; simp
  | some ls =>
    rw [impl_labelsOf_some h k hk]
    obtain ⟨h1, h2, h3⟩ := names_join h
    have hl : (joinL ls).length + 1 ≤ 255 := by rw [h1] at h3; simpa using h3
    have hll := joinL_len_ge ls
    have hd := joinL_len_drop ls n.toNat
    simp only [Option.bind_some, if_true]
    by_cases hn : n < 0
    · rw [if_pos hn, if_pos (.inl hn)]
    · rw [if_neg hn]
      by_cases hn2 : n > (ls.length : Int)
      · rw [if_pos hn2, if_pos (.inr hn2)]
      · rw [if_neg hn2, if_neg (show ¬ (n < 0 ∨ n > (ls.length : Int)) by omega), if_pos (by omega), if_pos (by omega), impl_joined_eq _ (by omega)]
        simp

end Go.Proofs.Ytpbmnokmpihnjaa.Pure
namespace Go.Proofs.Ytpbmnokmpihnjaa.Pure
open Go.RowKit Go.Proofs.Ytpbmnokmpihnjaa.F Go.Proofs.Ytpbmnokmpihnjaa.Base Go.Proofs.YtpbmnokmpihnjaaW.PrintWords Go.Proofs.YtpbmnokmpihnjaaW.PrintLast Go.Proofs.YtpbmnokmpihnjaaW.PrintMore
set_option linter.unusedVariables false
set_option linter.unusedSimpArgs false
-- base: BaseName
theorem impl_fold_eq (a : ByteArray) (ha : a.size ≤ 140737488355328) : impl_fold.f a = some (foldB a) := by
  unfold impl_fold.f
  rw [if_pos ha]
  congr 1
  apply L_inj
  rw [L_strOfNums, L_foldB, bytesOf, List.map_map, List.map_map]
  apply List.map_congr_left
  intro c _
  simp only [Function.comp, low8]
  unfold low
  by_cases h : 65 ≤ c.toNat ∧ c.toNat ≤ 90
  · rw [if_pos (by omega), if_pos h, show ((c.toNat : Int) + 32).toNat = c.toNat + 32 from by omega]
  · rw [if_neg (by omega), if_neg h]
    simp

end Go.Proofs.Ytpbmnokmpihnjaa.Pure
namespace Go.Proofs.Ytpbmnokmpihnjaa.Pure
open Go.RowKit Go.Proofs.Ytpbmnokmpihnjaa.F Go.Proofs.Ytpbmnokmpihnjaa.Base Go.Proofs.YtpbmnokmpihnjaaW.PrintWords Go.Proofs.YtpbmnokmpihnjaaW.PrintLast Go.Proofs.YtpbmnokmpihnjaaW.PrintMore
set_option linter.unusedVariables false
set_option linter.unusedSimpArgs false
-- base: BaseName
theorem impl_CompareNames_l0 (x y : List ByteArray) (hx : (joinL x).length ≤ 1000) (hy : (joinL y).length ≤ 1000) : ∀ (d k i : Nat), i ≤ x.length → i ≤ y.length → i + d = x.length → 2 * d + 1100 < k → impl_CompareNames.l0 k x y ((i : Int) + 1) = some (cmpR (x.reverse.drop i) (y.reverse.drop i)) := by
  have hlx := joinL_len_ge x
  have hly := joinL_len_ge y
  have tail : ∀ (k i : Nat), i ≤ x.length → i ≤ y.length → (i = x.length ∨ i = y.length) → impl_CompareNames.j2 (k + 1) x y ((i : Int) + 1) false = some (cmpR (x.reverse.drop i) (y.reverse.drop i)) := by
    intro k i h1 h2 h3
    rw [impl_CompareNames.j2, if_neg (by simp)]
    by_cases hlt : x.length < y.length
    · have e1 : x.reverse.drop i = [] := List.drop_of_length_le (by simp; omega)
      rw [if_pos (by omega), e1, rev_drop y i (by omega)]
      rfl
    · rw [if_neg (by omega)]
      by_cases hgt : x.length > y.length
      · have e1 : y.reverse.drop i = [] := List.drop_of_length_le (by simp; omega)
        rw [if_pos (by omega), e1, rev_drop x i (by omega)]
        rfl
      · have e1 : x.reverse.drop i = [] := List.drop_of_length_le (by simp; omega)
        have e2 : y.reverse.drop i = [] := List.drop_of_length_le (by simp; omega)
        rw [if_neg (by omega), e1, e2]
        rfl
  intro d
  induction d with
  | zero =>
    intro k i h1 h2 hi hk
    obtain ⟨k, rfl⟩ : ∃ m, k = m + 2 := ⟨k - 2, by omega⟩
    rw [impl_CompareNames.l0, if_neg (by omega)]
    exact tail k i h1 h2 (.inl (by omega))
  | succ d ih =>
    intro k i h1 h2 hi hk
    obtain ⟨k, rfl⟩ : ∃ m, k = m + 2 := ⟨k - 2, by omega⟩
    rw [impl_CompareNames.l0, if_pos (by omega)]
    by_cases hlt : i < y.length
    · rw [decide_eq_true (by omega), impl_CompareNames.j2, if_pos rfl]
      have ex : (x.length : Int) - ((i : Int) + 1) = ((x.length - (i + 1) : Nat) : Int) := by omega
      have ey : (y.length : Int) - ((i : Int) + 1) = ((y.length - (i + 1) : Nat) : Int) := by omega
      have hrx : rdOf ByteArray.empty x ((x.length - (i + 1) : Nat) : Int) = x.getD (x.length - (i + 1)) ByteArray.empty := by simp [rdOf]
      have hry : rdOf ByteArray.empty y ((y.length - (i + 1) : Nat) : Int) = y.getD (y.length - (i + 1)) ByteArray.empty := by simp [rdOf]
      have hmx : x.getD (x.length - (i + 1)) ByteArray.empty ∈ x := by rw [List.getD_eq_getElem?_getD, List.getElem?_eq_getElem (by omega)]; exact List.getElem_mem _
      have hmy : y.getD (y.length - (i + 1)) ByteArray.empty ∈ y := by rw [List.getD_eq_getElem?_getD, List.getElem?_eq_getElem (by omega)]; exact List.getElem_mem _
      have hsx := mem_len_le hmx
      have hsy := mem_len_le hmy
      rw [w64 (x := (x.length : Int) - ((i : Int) + 1)) (by omega) (by omega), w64 (x := (y.length : Int) - ((i : Int) + 1)) (by omega) (by omega), w64 (x := (i : Int) + 1 + 1) (by omega) (by omega), ex, ey, hrx, hry, if_pos (by omega), if_pos (by omega)]
      rw [rev_drop x i (by omega), rev_drop y i hlt, cmpR]
      generalize x.getD (x.length - (i + 1)) ByteArray.empty = s at *
      generalize y.getD (y.length - (i + 1)) ByteArray.empty = t at *
      rw [impl_fold_eq s (by omega), impl_fold_eq t (by omega)]
      simp only [Option.bind_some]
      rw [if_pos (by omega), if_pos (by omega)]
      simp only [Option.bind_some, strings_Compare.f]
      have hih := ih k (i + 1) (by omega) (by omega) (by omega) (by omega)
      rw [show (((i + 1 : Nat) : Int) + 1) = (i : Int) + 1 + 1 by omega] at hih
      by_cases hc : Lib.compareBytes (L (foldB s)) (L (foldB t)) = 0
      · rw [if_pos hc, show Lib.compareBytes (foldB s).data.toList (foldB t).data.toList = 0 from hc, if_pos rfl, hih]
      · rw [if_neg hc, if_neg (show ¬ Lib.compareBytes (foldB s).data.toList (foldB t).data.toList = 0 from hc)]
        rfl
    · rw [decide_eq_false (by omega)]
      exact tail k i h1 h2 (.inr (by omega))
theorem impl_CompareNames_eq (a b : ByteArray) (k : Nat) (hk : 10000 ≤ k) : impl_CompareNames.f k a b = some (cmpN a b) := by
  obtain ⟨k, rfl⟩ : ∃ m, k = m + 1 := ⟨k - 1, by omega⟩
  unfold impl_CompareNames.f cmpN
  cases ha : names (L a) with
  | none =>
    rw [impl_labelsOf_none ha _ (by omega)]
    cases hb : names (L b) with
    | none => rw [impl_labelsOf_none hb _ (by omega)]; simp [impl_CompareNames.j0]
    | some y => rw [impl_labelsOf_some hb _ (by omega)]; simp [impl_CompareNames.j0]
  | some x =>
    cases hb : names (L b) with
    | none => rw [impl_labelsOf_some ha _ (by omega), impl_labelsOf_none hb _ (by omega)]; simp [impl_CompareNames.j0]
    | some y =>
      obtain ⟨h1, h2, h3⟩ := names_join ha
      obtain ⟨g1, g2, g3⟩ := names_join hb
      have hl : (joinL x).length + 1 ≤ 255 := by rw [h1] at h3; simpa using h3
      have gl : (joinL y).length + 1 ≤ 255 := by rw [g1] at g3; simpa using g3
      have hll := joinL_len_ge x
      have hl0 := impl_CompareNames_l0 x y (by omega) (by omega) x.length k 0 (by omega) (by omega) (by omega) (by omega)
      simp only [List.drop_zero] at hl0
      rw [impl_labelsOf_some ha _ (by omega), impl_labelsOf_some hb _ (by omega)]
      simp only [Option.bind_some, if_true, List.nil_append, impl_CompareNames.j0, Bool.not_true, Bool.false_eq_true, if_false]
      exact hl0

end Go.Proofs.Ytpbmnokmpihnjaa.Pure
namespace Go.Proofs.Ytpbmnokmpihnjaa.Pure
open Go.RowKit Go.Proofs.Ytpbmnokmpihnjaa.F Go.Proofs.Ytpbmnokmpihnjaa.Base Go.Proofs.YtpbmnokmpihnjaaW.PrintWords Go.Proofs.YtpbmnokmpihnjaaW.PrintLast Go.Proofs.YtpbmnokmpihnjaaW.PrintMore
set_option linter.unusedVariables false
set_option linter.unusedSimpArgs false
-- base: BaseName
theorem impl_IsUnder_eq (a b : ByteArray) (k : Nat) (hk : 1000 ≤ k) : impl_IsUnder.f k a b = some (underN a b) := by
  obtain ⟨k, rfl⟩ : ∃ m, k = m + 1 := ⟨k - 1, by omega⟩
  unfold impl_IsUnder.f underN
  cases ha : names (L a) with
  | none =>
    rw [impl_labelsOf_none ha _ (by omega)]
    cases hb : names (L b) with
    | none => rw [impl_labelsOf_none hb _ (by omega)]; simp [impl_IsUnder.j0]
    | some y => rw [impl_labelsOf_some hb _ (by omega)]; simp [impl_IsUnder.j0]
  | some x =>
    rw [impl_labelsOf_some ha _ (by omega)]
    cases hb : names (L b) with
    | none => rw [impl_labelsOf_none hb _ (by omega)]; simp [impl_IsUnder.j0]
    | some y =>
      rw [impl_labelsOf_some hb _ (by omega)]
      obtain ⟨gx, jx, lx⟩ := names_good ha
      obtain ⟨gy, jy, ly⟩ := names_good hb
      have hlx := joinL_len_ge x
      have hly := joinL_len_ge y
      simp only [Option.bind_some, if_true, impl_IsUnder.j0]
      unfold underL
      by_cases h : x.length < y.length
      · rw [if_pos (by simp; omega), decide_eq_false (by omega)]
      · have hd := joinL_len_drop x (x.length - y.length)
        have gd := gx.drop (x.length - y.length)
        have hsb : b.size ≤ 255 := by rw [← jy, size_join]; exact ly
        rw [if_neg (by simp; omega), w64 (by omega) (by omega), if_pos (by omega), if_pos (by omega), show ((x.length : Int) - (y.length : Int)).toNat = x.length - y.length by omega, impl_joined_eq _ (by omega)]
        simp only [Option.bind_some]
        rw [impl_fold_eq _ (by rw [size_join]; omega), impl_fold_eq b (by omega)]
        simp only [Option.bind_some, toL, Option.some.injEq]
        rw [← jy]
        by_cases hf : (x.drop (x.length - y.length)).map foldB = y.map foldB
        · rw [decide_eq_true ⟨by omega, hf⟩, beq_iff_eq, (foldB_join_iff gd gy).2 hf]
        · rw [decide_eq_false (fun h1 => hf h1.2), beq_eq_false_iff_ne]
          intro e
          exact hf ((foldB_join_iff gd gy).1 (L_inj e))

end Go.Proofs.Ytpbmnokmpihnjaa.Pure
namespace Go.Proofs.Ytpbmnokmpihnjaa.Pure
open Go.RowKit Go.Proofs.Ytpbmnokmpihnjaa.F Go.Proofs.Ytpbmnokmpihnjaa.Base Go.Proofs.YtpbmnokmpihnjaaW.PrintWords Go.Proofs.YtpbmnokmpihnjaaW.PrintLast Go.Proofs.YtpbmnokmpihnjaaW.PrintMore
set_option linter.unusedVariables false
set_option linter.unusedSimpArgs false
theorem impl_NameOK_eq (a : ByteArray) (k : Nat) (hk : 400 ≤ k) : impl_NameOK.f k a = some (names (L a)).isSome := by
  unfold impl_NameOK.f
  cases h : names (L a) with
  | none => rw [impl_labelsOf_none h k hk]; simp
  | some ls => rw [impl_labelsOf_some h k hk]; simp

end Go.Proofs.Ytpbmnokmpihnjaa.Pure
namespace Go.Proofs.Ytpbmnokmpihnjaa.Pure
open Go.RowKit Go.Proofs.Ytpbmnokmpihnjaa.F Go.Proofs.Ytpbmnokmpihnjaa.Base Go.Proofs.YtpbmnokmpihnjaaW.PrintWords Go.Proofs.YtpbmnokmpihnjaaW.PrintLast Go.Proofs.YtpbmnokmpihnjaaW.PrintMore
set_option linter.unusedVariables false
set_option linter.unusedSimpArgs false
-- base: BaseName
theorem impl_SameName_eq (a b : ByteArray) (k : Nat) (hk : 400 ≤ k) : impl_SameName.f k a b = some (sameN a b) := by
  unfold impl_SameName.f sameN
  rw [impl_NameOK_eq a k hk, impl_NameOK_eq b k hk]
  simp only [Option.bind_some]
  cases ha : names (L a) with
  | none => simp
  | some ls =>
    cases hb : names (L b) with
    | none => simp
    | some ms =>
      have h1 := (names_join ha).2.2
      have h2 := (names_join hb).2.2
      rw [impl_fold_eq a (by rw [size_L]; omega), impl_fold_eq b (by rw [size_L]; omega)]
      simp only [Option.bind_some, Option.isSome_some, if_true, Bool.true_and, toL]

end Go.Proofs.Ytpbmnokmpihnjaa.Pure
namespace Go.Proofs.Ytpbmnokmpihnjaa.Pure
open Go.RowKit Go.Proofs.Ytpbmnokmpihnjaa.F Go.Proofs.Ytpbmnokmpihnjaa.Base Go.Proofs.YtpbmnokmpihnjaaW.PrintWords Go.Proofs.YtpbmnokmpihnjaaW.PrintLast Go.Proofs.YtpbmnokmpihnjaaW.PrintMore
set_option linter.unusedVariables false
set_option linter.unusedSimpArgs false
-- base: BaseName
theorem spec_l01Join_eq (l : List ByteArray) (hb : (joinL l).length ≤ 1000000000) : spec_l01Join.f l = some (join l) := by
  have hll := joinL_len_ge l
  have e : joinS l = joinL l := rfl
  unfold spec_l01Join.f
  rw [e, if_pos (by omega)]
  rfl

end Go.Proofs.Ytpbmnokmpihnjaa.Pure
namespace Go.Proofs.Ytpbmnokmpihnjaa.Pure
open Go.RowKit Go.Proofs.Ytpbmnokmpihnjaa.F Go.Proofs.Ytpbmnokmpihnjaa.Base Go.Proofs.YtpbmnokmpihnjaaW.PrintWords Go.Proofs.YtpbmnokmpihnjaaW.PrintLast Go.Proofs.YtpbmnokmpihnjaaW.PrintMore
set_option linter.unusedVariables false
set_option linter.unusedSimpArgs false
def SrcOk (code : List Int) (p : Int) : Prop := code.length ≤ 1048576 ∧ 0 ≤ p ∧ p ≤ (code.length : Int)
theorem u64_eq (x : Int) : Go.IntKind.u64.wrap x = x % 18446744073709551616 := by
  simp [Go.IntKind.wrap, Go.IntKind.signed, Go.IntKind.bits]
theorem u64_range (x : Int) : 0 ≤ Go.IntKind.u64.wrap x ∧ Go.IntKind.u64.wrap x < 18446744073709551616 := by
  rw [u64_eq]
  exact ⟨Int.emod_nonneg _ (by decide), Int.emod_lt_of_pos _ (by decide)⟩
theorem u64_bits (op : Go.BinOp) (x y : Int) : 0 ≤ Go.bits op .u64 x y := by
  unfold Go.bits
  split <;> exact (u64_range _).1
theorem u64_small {n : Int} (h0 : 0 ≤ n) (h1 : n ≤ 1000000) : Go.IntKind.u64.wrap n = n := by
  rw [u64_eq]
  omega
theorem spec_l01Next_eq (code : List Int) (p st n : Int) (h : SrcOk code p) (hn : n ≤ 1000000) : ∃ x q t, spec_l01Next.f code p st n = some (x, q, t) ∧ SrcOk code q ∧ 0 ≤ x ∧ (x = 0 ∨ x < n) := by
  obtain ⟨h1, h2, h3⟩ := h
  unfold spec_l01Next.f
  by_cases h0 : n ≤ 0
  · rw [if_pos h0]
    exact ⟨_, _, _, rfl, ⟨h1, h2, h3⟩, Int.le_refl _, .inl rfl⟩
  · rw [if_neg h0, u64_small (by omega) hn]
    have key : ∀ X : Int, 0 ≤ X → wrap64 (Int.tmod X n) = X % n := by
      intro X hX
      rw [Int.tmod_eq_emod_of_nonneg hX]
      have a1 := Int.emod_nonneg X (show n ≠ 0 by omega)
      have a2 := Int.emod_lt_of_pos X (show 0 < n by omega)
      exact w64 (by omega) (by omega)
    have kx : ∀ X : Int, 0 ≤ X % n ∧ X % n < n := fun X => ⟨Int.emod_nonneg X (by omega), Int.emod_lt_of_pos X (by omega)⟩
    have hd : ∀ Y : Int, 0 ≤ Go.IntKind.u64.wrap Y / 8589934592 := fun Y => Int.ediv_nonneg (u64_range Y).1 (by decide)
    by_cases hp : p < (code.length : Int)
    · rw [if_pos hp, if_pos h2, if_neg (show ¬ n = 0 by omega)]
      refine ⟨_, _, _, rfl, ⟨h1, ?_, ?_⟩, ?_, .inr ?_⟩
      · rw [w64 (by omega) (by omega)]; omega
      · rw [w64 (by omega) (by omega)]; omega
      · rw [key _ (u64_bits _ _ _)]; exact (kx _).1
      · rw [key _ (u64_bits _ _ _)]; exact (kx _).2
    · rw [if_neg hp, if_neg (show ¬ n = 0 by omega)]
      refine ⟨_, _, _, rfl, ⟨h1, h2, h3⟩, ?_, .inr ?_⟩
      · rw [key _ (hd _)]; exact (kx _).1
      · rw [key _ (hd _)]; exact (kx _).2

end Go.Proofs.Ytpbmnokmpihnjaa.Pure
namespace Go.Proofs.Ytpbmnokmpihnjaa.Pure
open Go.RowKit Go.Proofs.Ytpbmnokmpihnjaa.F Go.Proofs.Ytpbmnokmpihnjaa.Base Go.Proofs.YtpbmnokmpihnjaaW.PrintWords Go.Proofs.YtpbmnokmpihnjaaW.PrintLast Go.Proofs.YtpbmnokmpihnjaaW.PrintMore
set_option linter.unusedVariables false
set_option linter.unusedSimpArgs false
theorem spec_l01Split_l0 : ∀ (n k : Nat) (acc : List ByteArray) (x : ByteArray), x.size ≤ n → n < k → acc.length + x.size ≤ 300 → spec_l01Split.l0 k acc x = some (res acc (labs (L x))) := by
  intro n
  induction n with
  | zero =>
    intro k acc x hn hk hb
    obtain ⟨k, rfl⟩ : ∃ m, k = m + 1 := ⟨k - 1, by omega⟩
    have hs := size_L x
    have hx : L x = [] := List.length_eq_zero_iff.1 (by omega)
    simp only [spec_l01Split.l0, toL]
    rw [if_pos hx, hx]
    simp [labs, res]
  | succ n ih =>
    intro k acc x hn hk hb
    obtain ⟨k, rfl⟩ : ∃ m, k = m + 1 := ⟨k - 1, by omega⟩
    have hs := size_L x
    simp only [spec_l01Split.l0, toL]
    cases hx : L x with
    | nil => rw [if_pos rfl]; simp [labs, res]
    | cons c r =>
      rw [hx] at hs
      simp only [List.length_cons] at hs
      have hc := byte_le c
      rw [bt_cons hx, if_neg (by simp), if_pos (by omega)]
      simp (maxSteps := 10000000) (disch := omega) only [w64]
      rw [labs]
      by_cases h0 : c.toNat = 0
      · rw [if_pos (by omega), if_pos h0]
        by_cases hr : r = []
        · rw [if_pos (by subst hr; simp at hs; omega), if_pos hr]; simp [res]
        · rw [if_neg (by intro h; exact hr (List.length_eq_zero_iff.1 (by omega))), if_neg hr]; simp [res]
      · rw [if_neg (by omega), if_neg h0]
        by_cases h63 : 63 < c.toNat
        · rw [if_pos (by omega), if_pos h63]; simp [res]
        · rw [if_neg (by omega), if_neg h63]
          by_cases hl : r.length < c.toNat
          · rw [if_pos (by omega), if_pos hl]; simp [res]
          · rw [if_neg (by omega), if_neg hl, if_pos (by omega), if_pos (by omega), if_pos (by omega), if_pos (by omega)]
            have e0 : ((c.toNat : Int) + 1).toNat = c.toNat + 1 := by omega
            rw [e0]
            have e1 : x.extract 1 (c.toNat + 1) = B (r.take c.toNat) := L_inj (by rw [L_extract, hx, L_B]; simp)
            have e2 : L (x.extract (c.toNat + 1) x.size) = r.drop c.toNat := by rw [L_extract, hx, hs]; simp [List.take_of_length_le]
            have e3 : (x.extract (c.toNat + 1) x.size).size = r.length - c.toNat := by rw [size_L, e2]; simp
            rw [ih k _ _ (by omega) (by omega) (by simp; omega), e1, e2, res_map]
theorem spec_l01Split_eq (a : ByteArray) (k : Nat) (hk : 400 ≤ k) : spec_l01Split.f k a = some (res [] (names (L a))) := by
  obtain ⟨k, rfl⟩ : ∃ m, k = m + 1 := ⟨k - 1, by omega⟩
  have hs := size_L a
  unfold spec_l01Split.f names
  simp only [Option.bind_some, spec_l01Split.j0]
  by_cases h1 : (L a).length < 1
  · rw [if_pos (by omega), if_pos trivial, if_pos (by omega)]; simp [res]
  · rw [if_neg (by omega)]
    by_cases h2 : 255 < (L a).length
    · rw [if_pos (by simp; omega), if_pos (by omega)]; simp [res]
    · rw [if_neg (by simp; omega), if_neg (by omega)]
      exact spec_l01Split_l0 a.size k [] a (Nat.le_refl _) (by omega) (by simp; omega)

end Go.Proofs.Ytpbmnokmpihnjaa.Pure
namespace Go.Proofs.Ytpbmnokmpihnjaa.Pure
open Go.RowKit Go.Proofs.Ytpbmnokmpihnjaa.F Go.Proofs.Ytpbmnokmpihnjaa.Base Go.Proofs.YtpbmnokmpihnjaaW.PrintWords Go.Proofs.YtpbmnokmpihnjaaW.PrintLast Go.Proofs.YtpbmnokmpihnjaaW.PrintMore
set_option linter.unusedVariables false
set_option linter.unusedSimpArgs false
-- base: BaseName
theorem spec_l01Case_go (code : List Int) : ∀ (xs : List Int) (p st : Int), SrcOk code p → ∃ o q t, spec_l01Case.go code xs p st = some (o, q, t) ∧ SrcOk code q ∧ o.length = xs.length := by
  intro xs
  induction xs with
  | nil => intro p st h; exact ⟨[], p, st, rfl, h, rfl⟩
  | cons c r ih =>
    intro p st h
    rw [spec_l01Case.go]
    by_cases hc : 97 ≤ c ∧ c ≤ 122
    · rw [if_pos hc]
      obtain ⟨y, q, t, e, hq, _, _⟩ := spec_l01Next_eq code p st 3 h (by omega)
      rw [e]
      simp only [Option.bind_some]
      obtain ⟨o, q2, t2, e2, hq2, ho⟩ := ih q t hq
      rw [e2]
      exact ⟨_, _, _, rfl, hq2, by simp [ho]⟩
    · rw [if_neg hc]
      obtain ⟨o, q2, t2, e2, hq2, ho⟩ := ih p st h
      rw [e2]
      exact ⟨_, _, _, rfl, hq2, by simp [ho]⟩
theorem spec_l01Case_labs (code : List Int) : ∀ (l : List ByteArray) (p st : Int), SrcOk code p → (∀ s ∈ l, s.size ≤ 1000) → ∃ o q t, spec_l01Case.labs code l p st = some (o, q, t) ∧ SrcOk code q ∧ (joinL o).length = (joinL l).length := by
  intro l
  induction l with
  | nil => intro p st h _; exact ⟨[], p, st, rfl, h, rfl⟩
  | cons s r ih =>
    intro p st h hs
    have h1 := hs s (by simp)
    rw [spec_l01Case.labs, if_neg (by omega)]
    obtain ⟨o, q, t, e, hq, ho⟩ := spec_l01Case_go code (bytesOf s) p st h
    rw [e]
    simp only [Option.bind_some]
    obtain ⟨u, q2, t2, e2, hq2, hu⟩ := ih q t hq (fun x hx => hs x (by simp [hx]))
    rw [e2]
    refine ⟨_, _, _, rfl, hq2, ?_⟩
    have hl := bytesOf_length s
    have h3 := size_L s
    rw [joinL_cons, joinL_cons]
    simp only [List.length_cons, List.length_append, L_strOfNums, List.length_map]
    omega
theorem spec_l01Case_eq (code : List Int) (p st : Int) (a : ByteArray) (k : Nat) (h : SrcOk code p) (hk : 400 ≤ k) : ∃ b q t, spec_l01Case.f k code p st a = some (b, q, t) ∧ SrcOk code q ∧ b.size ≤ 255 := by
  unfold spec_l01Case.f
  rw [spec_l01Split_eq a k hk]
  simp only [Option.bind_some]
  have key : ∀ l : List ByteArray, (joinL l).length + 1 ≤ 255 → (∀ s ∈ l, s.size ≤ 1000) → ∃ b q t, (if 1000000000 < l.length then none else (spec_l01Case.labs code l p st).bind fun t => (spec_l01Join.f t.1).bind fun j => some (j, t.2.1, t.2.2)) = some (b, q, t) ∧ SrcOk code q ∧ b.size ≤ 255 := by
    intro l h1 h2
    have hll := joinL_len_ge l
    rw [if_neg (by omega)]
    obtain ⟨o, q, t, e, hq, ho⟩ := spec_l01Case_labs code l p st h h2
    rw [e]
    simp only [Option.bind_some]
    rw [spec_l01Join_eq o (by omega)]
    exact ⟨_, _, _, rfl, hq, by rw [size_join]; omega⟩
  cases hn : names (L a) with
  | none => exact key [] (by simp [joinL]) (by simp)
  | some ls =>
    obtain ⟨g, _, hl⟩ := names_good hn
    exact key ls hl (fun s hs => by have := (g s hs).2; omega)

end Go.Proofs.Ytpbmnokmpihnjaa.Pure
namespace Go.Proofs.Ytpbmnokmpihnjaa.Pure
open Go.RowKit Go.Proofs.Ytpbmnokmpihnjaa.F Go.Proofs.Ytpbmnokmpihnjaa.Base Go.Proofs.YtpbmnokmpihnjaaW.PrintWords Go.Proofs.YtpbmnokmpihnjaaW.PrintLast Go.Proofs.YtpbmnokmpihnjaaW.PrintMore
set_option linter.unusedVariables false
set_option linter.unusedSimpArgs false
theorem spec_l01Bytes_l0 (code : List Int) : ∀ (d k : Nat) (xs : List Int) (n i p st : Int), SrcOk code p → 0 ≤ i → i + d = n → n ≤ 1000 → xs.length = i.toNat → d < k → ∃ b q t, spec_l01Bytes.l0 k n xs i code p st = some (b, q, t) ∧ SrcOk code q ∧ b.size = n.toNat := by
  intro d
  induction d with
  | zero =>
    intro k xs n i p st h h0 hi hn hx hk
    obtain ⟨k, rfl⟩ : ∃ m, k = m + 1 := ⟨k - 1, by omega⟩
    rw [spec_l01Bytes.l0, if_neg (by omega)]
    exact ⟨_, _, _, rfl, h, by rw [size_L, L_strOfNums, List.length_map]; omega⟩
  | succ d ih =>
    intro k xs n i p st h h0 hi hn hx hk
    obtain ⟨k, rfl⟩ : ∃ m, k = m + 1 := ⟨k - 1, by omega⟩
    obtain ⟨x, q, t, e, hq, hx0, hx1⟩ := spec_l01Next_eq code p st 256 h (by omega)
    rw [spec_l01Bytes.l0, if_pos (by omega), e]
    simp only [Option.bind_some]
    rw [if_pos (by omega), w64 (by omega) (by omega)]
    exact ih k _ n (i + 1) q t hq (by omega) (by omega) hn (by simp; omega) (by omega)
theorem spec_l01Bytes_eq (code : List Int) (p st n : Int) (k : Nat) (h : SrcOk code p) (h0 : 0 ≤ n) (hn : n ≤ 1000) (hk : 1100 ≤ k) : ∃ b q t, spec_l01Bytes.f k code p st n = some (b, q, t) ∧ SrcOk code q ∧ b.size = n.toNat := by
  unfold spec_l01Bytes.f
  exact spec_l01Bytes_l0 code n.toNat k [] n 0 p st h (Int.le_refl _) (by omega) hn rfl (by omega)

end Go.Proofs.Ytpbmnokmpihnjaa.Pure
namespace Go.Proofs.Ytpbmnokmpihnjaa.Pure
open Go.RowKit Go.Proofs.Ytpbmnokmpihnjaa.F Go.Proofs.Ytpbmnokmpihnjaa.Base Go.Proofs.YtpbmnokmpihnjaaW.PrintWords Go.Proofs.YtpbmnokmpihnjaaW.PrintLast Go.Proofs.YtpbmnokmpihnjaaW.PrintMore
set_option linter.unusedVariables false
set_option linter.unusedSimpArgs false
theorem spec_l01Label_eq (code : List Int) (p st : Int) (k : Nat) (h : SrcOk code p) (hk : 1100 ≤ k) : ∃ b q t, spec_l01Label.f k code p st = some (b, q, t) ∧ SrcOk code q ∧ b.size ≤ 7 := by
  obtain ⟨x, q, t, e, hq, hx0, hx1⟩ := spec_l01Next_eq code p st 12 h (by omega)
  unfold spec_l01Label.f
  rw [e]
  simp only [Option.bind_some]
  by_cases c0 : x = 0
  · rw [if_pos c0]; exact ⟨_, _, _, rfl, hq, by decide⟩
  rw [if_neg c0]
  by_cases c1 : x = 1
  · rw [if_pos c1]
    obtain ⟨y, q2, t2, e2, hq2, hy0, hy1⟩ := spec_l01Next_eq code q t 4 hq (by omega)
    rw [e2]
    simp only [Option.bind_some]
    rw [w64 (by omega) (by omega)]
    obtain ⟨b, q3, t3, e3, hq3, hb⟩ := spec_l01Bytes_eq code q2 t2 (1 + y) k hq2 (by omega) (by omega) hk
    rw [e3]
    simp only [Option.bind_some]
    exact ⟨_, _, _, rfl, hq3, by omega⟩
  rw [if_neg c1]
  by_cases c2 : x = 2
  · rw [if_pos c2]; exact ⟨_, _, _, rfl, hq, by decide⟩
  rw [if_neg c2]
  by_cases c3 : x = 3
  · rw [if_pos c3]; exact ⟨_, _, _, rfl, hq, by decide⟩
  rw [if_neg c3]
  by_cases c4 : x = 4
  · rw [if_pos c4]; exact ⟨_, _, _, rfl, hq, by decide⟩
  rw [if_neg c4]
  have hs : ∀ v : Int, (strOfNums [v]).size = 1 := fun v => by rw [size_L, L_strOfNums]; rfl
  by_cases c5 : x = 5
  · rw [if_pos c5]
    obtain ⟨y, q2, t2, e2, hq2, hy0, hy1⟩ := spec_l01Next_eq code q t 3 hq (by omega)
    rw [e2]
    simp only [Option.bind_some]
    rw [if_pos (by rw [hs]; omega)]
    exact ⟨_, _, _, rfl, hq2, by rw [ByteArray.size_append, hs]; decide⟩
  rw [if_neg c5]
  obtain ⟨y, q2, t2, e2, hq2, hy0, hy1⟩ := spec_l01Next_eq code q t 4 hq (by omega)
  rw [e2]
  simp only [Option.bind_some]
  exact ⟨_, _, _, rfl, hq2, by rw [hs]; decide⟩

end Go.Proofs.Ytpbmnokmpihnjaa.Pure
namespace Go.Proofs.Ytpbmnokmpihnjaa.Pure
open Go.RowKit Go.Proofs.Ytpbmnokmpihnjaa.F Go.Proofs.Ytpbmnokmpihnjaa.Base Go.Proofs.YtpbmnokmpihnjaaW.PrintWords Go.Proofs.YtpbmnokmpihnjaaW.PrintLast Go.Proofs.YtpbmnokmpihnjaaW.PrintMore
set_option linter.unusedVariables false
set_option linter.unusedSimpArgs false
-- base: BaseName
theorem spec_l01Near_set (l : List ByteArray) (b : ByteArray) : (joinL (l.set 0 b)).length ≤ (joinL l).length + 1 + b.size := by
  cases l with
  | nil => simp [joinL]
  | cons s r => rw [List.set_cons_zero, joinL_cons, joinL_cons]; simp only [List.length_cons, List.length_append, size_L]; omega
theorem spec_l01Near_j0 (code : List Int) (p st : Int) (a : ByteArray) (l : List ByteArray) (n : Int) (bb : Bool) (k : Nat) (h : SrcOk code p) (ha : a.size ≤ 2000) (hl : (joinL l).length + 1 ≤ 255) (hk : 1200 ≤ k) : ∃ b q t, spec_l01Near.j0 k a l n bb code p st = some (b, q, t) ∧ SrcOk code q ∧ b.size ≤ 2000 := by
  obtain ⟨k, rfl⟩ : ∃ m, k = m + 1 := ⟨k - 1, by omega⟩
  have hll := joinL_len_ge l
  have out : ∀ (m : List ByteArray) (q t : Int), SrcOk code q → (joinL m).length ≤ 1000 → ∃ b q' t', ((spec_l01Join.f m).bind fun t126 => (if (t126.size : Int) > 255 then (some (a, q, t)) else (some (t126, q, t)))) = some (b, q', t') ∧ SrcOk code q' ∧ b.size ≤ 2000 := by
    intro m q t hq hm
    rw [spec_l01Join_eq m (by omega)]
    simp only [Option.bind_some]
    by_cases c : ((join m).size : Int) > 255
    · rw [if_pos c]; exact ⟨_, _, _, rfl, hq, ha⟩
    · rw [if_neg c]; exact ⟨_, _, _, rfl, hq, by omega⟩
  rw [spec_l01Near.j0]
  by_cases c0 : bb = true
  · rw [if_pos c0]
    obtain ⟨b, q, t, e, hq, hb⟩ := spec_l01Label_eq code p st k h (by omega)
    rw [e]
    simp only [Option.bind_some]
    rw [if_pos (by simp; omega)]
    exact out _ q t hq (by show (joinL (b :: l)).length ≤ _; rw [joinL_cons]; simp only [List.length_cons, List.length_append, ← size_L]; omega)
  rw [if_neg c0]
  by_cases c1 : n = 4
  · rw [if_pos c1]
    by_cases c2 : (l.length : Int) > 0
    · rw [if_pos c2]
      obtain ⟨b, q, t, e, hq, hb⟩ := spec_l01Label_eq code p st k h (by omega)
      rw [e]
      simp only [Option.bind_some]
      rw [if_pos (by omega)]
      have hset := spec_l01Near_set l b
      exact out _ q t hq (by show (joinL (l.set 0 b)).length ≤ _; omega)
    · rw [if_neg c2]
      exact out _ p st h (by omega)
  · rw [if_neg c1]
    exact out _ p st h (by omega)
theorem spec_l01Near_eq (code : List Int) (p st : Int) (a : ByteArray) (k : Nat) (h : SrcOk code p) (ha : a.size ≤ 2000) (hk : 1200 ≤ k) : ∃ b q t, spec_l01Near.f k code p st a = some (b, q, t) ∧ SrcOk code q ∧ b.size ≤ 2000 := by
  unfold spec_l01Near.f
  rw [spec_l01Split_eq a k (by omega)]
  simp only [Option.bind_some]
  cases hn : names (L a) with
  | none => exact ⟨_, _, _, rfl, h, ha⟩
  | some ls =>
    obtain ⟨g, _, hl⟩ := names_good hn
    simp only [res, List.nil_append, if_true]
    obtain ⟨y, q, t, e, hq, _, _⟩ := spec_l01Next_eq code p st 5 h (by omega)
    rw [e]
    simp only [Option.bind_some]
    by_cases c0 : y = 0
    · rw [if_pos c0]
      obtain ⟨b, q2, t2, e2, hq2, hb⟩ := spec_l01Case_eq code q t a k hq (by omega)
      rw [e2]
      exact ⟨_, _, _, rfl, hq2, by show b.size ≤ 2000; omega⟩
    rw [if_neg c0]
    by_cases c1 : y = 1
    · rw [if_pos c1]
      by_cases c2 : (ls.length : Int) > 0
      · have hd := joinL_len_drop ls 1
        have c3 : (1 : Int) ≤ (ls.length : Int) := by omega
        simp only [c2, c3, if_true]
        rw [spec_l01Join_eq _ (by omega)]
        exact ⟨_, _, _, rfl, hq, by rw [size_join]; omega⟩
      · rw [if_neg c2, spec_l01Join_eq _ (by omega)]
        simp only [Option.bind_some]
        rw [if_neg (by rw [size_join]; omega)]
        exact ⟨_, _, _, rfl, hq, by rw [size_join]; omega⟩
    rw [if_neg c1]
    by_cases c2 : y = 2
    · rw [if_pos c2]
      exact spec_l01Near_j0 code q t a ls y _ k hq ha hl hk
    · rw [if_neg c2]
      exact spec_l01Near_j0 code q t a ls y _ k hq ha hl hk

end Go.Proofs.Ytpbmnokmpihnjaa.Pure
namespace Go.Proofs.Ytpbmnokmpihnjaa.Pure
open Go.RowKit Go.Proofs.Ytpbmnokmpihnjaa.F Go.Proofs.Ytpbmnokmpihnjaa.Base Go.Proofs.YtpbmnokmpihnjaaW.PrintWords Go.Proofs.YtpbmnokmpihnjaaW.PrintLast Go.Proofs.YtpbmnokmpihnjaaW.PrintMore
set_option linter.unusedVariables false
set_option linter.unusedSimpArgs false
-- base: BaseName
theorem joinL_one (l : List ByteArray) (b : ByteArray) : (joinL (l ++ [b])).length = (joinL l).length + 1 + b.size := by
  rw [joinL_append, List.length_append, joinL_cons, List.length_cons, List.length_append, size_L]
  simp [joinL]
  omega
theorem spec_l01Name_j4 (code : List Int) (p st : Int) (k : Nat) (l : List ByteArray) (h : SrcOk code p) (hl : (joinL l).length ≤ 1000) : ∃ b q t, spec_l01Name.j4 (k + 1) l code p st = some (b, q, t) ∧ SrcOk code q ∧ 1 ≤ b.size ∧ b.size ≤ 1001 := by
  rw [spec_l01Name.j4, spec_l01Join_eq l (by omega)]
  simp only [Option.bind_some]
  rw [size_join]
  by_cases h1 : ((((joinL l).length + 1 : Nat) : Int)) > 255
  · have hne : 1 ≤ (l.length : Int) := by
      cases l with
      | nil => simp [joinL] at h1
      | cons x r => simp; omega
    have hd := joinL_len_drop l 1
    rw [if_pos h1, if_pos hne, spec_l01Join_eq _ (by show (joinL (l.drop 1)).length ≤ _; omega)]
    simp only [Option.bind_some]
    exact ⟨_, _, _, rfl, h, by rw [size_join]; omega, by rw [size_join]; show (joinL (l.drop 1)).length + 1 ≤ _; omega⟩
  · rw [if_neg h1]
    exact ⟨_, _, _, rfl, h, by rw [size_join]; omega, by rw [size_join]; omega⟩
theorem spec_l01Name_room {x : Int} (h0 : 0 ≤ x) (h1 : x ≤ 100000) : wrap64 (wrap64 (255 - x) - 1) = 255 - x - 1 := by
  have e : wrap64 (255 - x) = 255 - x := w64 (by omega) (by omega)
  rw [e, w64 (by omega) (by omega)]
theorem spec_l01Name_l1 (code : List Int) : ∀ (d k : Nat) (l : List ByteArray) (p st : Int), SrcOk code p → (joinL l).length ≤ 300 → 300 ≤ (joinL l).length + d → d + 1200 < k → ∃ b q t, spec_l01Name.l1 k l code p st = some (b, q, t) ∧ SrcOk code q ∧ 1 ≤ b.size ∧ b.size ≤ 1001 := by
  intro d
  induction d with
  | zero =>
    intro k l p st h h1 h2 hk
    obtain ⟨k, rfl⟩ : ∃ m, k = m + 1 + 1 + 1 := ⟨k - 3, by omega⟩
    rw [spec_l01Name.l1, spec_l01Join_eq l (by omega)]
    simp only [Option.bind_some]
    rw [size_join, if_neg (by omega), spec_l01Name_room (by omega) (by omega), if_neg (by omega), spec_l01Name.j3, if_neg (by simp)]
    exact spec_l01Name_j4 code p st k l h (by omega)
  | succ d ih =>
    intro k l p st h h1 h2 hk
    obtain ⟨k, rfl⟩ : ∃ m, k = m + 1 + 1 + 1 := ⟨k - 3, by omega⟩
    have hll := joinL_len_ge l
    rw [spec_l01Name.l1, spec_l01Join_eq l (by omega)]
    simp only [Option.bind_some]
    rw [size_join]
    by_cases c : (((joinL l).length + 1 : Nat) : Int) < 190
    · rw [if_pos c]
      obtain ⟨x, q, t, e, hq, hx0, hx1⟩ := spec_l01Next_eq code p st 63 h (by omega)
      rw [e]
      simp only [Option.bind_some]
      rw [w64 (by omega) (by omega)]
      obtain ⟨b, q2, t2, e2, hq2, hb⟩ := spec_l01Bytes_eq code q t (1 + x) (k + 1 + 1) hq (by omega) (by omega) (by omega)
      rw [e2]
      simp only [Option.bind_some]
      rw [if_pos (by omega)]
      exact ih (k + 1 + 1) _ q2 t2 hq2 (by rw [joinL_one]; omega) (by rw [joinL_one]; omega) (by omega)
    · rw [if_neg c, spec_l01Name_room (by omega) (by omega)]
      have hj : ∀ bb : Bool, (bb = true → 255 - (((joinL l).length + 1 : Nat) : Int) - 1 ≤ 63 ∧ 0 ≤ 255 - (((joinL l).length + 1 : Nat) : Int) - 1) → ∃ b q t, spec_l01Name.j3 (k + 1 + 1) l (255 - (((joinL l).length + 1 : Nat) : Int) - 1) bb code p st = some (b, q, t) ∧ SrcOk code q ∧ 1 ≤ b.size ∧ b.size ≤ 1001 := by
        intro bb hbb
        rw [spec_l01Name.j3]
        by_cases cb : bb = true
        · rw [if_pos cb]
          obtain ⟨g1, g2⟩ := hbb cb
          obtain ⟨b, q2, t2, e2, hq2, hb⟩ := spec_l01Bytes_eq code p st _ (k + 1) h g2 (by omega) (by omega)
          rw [e2]
          simp only [Option.bind_some]
          rw [if_pos (by omega)]
          exact spec_l01Name_j4 code q2 t2 k _ hq2 (by rw [joinL_one]; omega)
        · rw [if_neg cb]
          exact spec_l01Name_j4 code p st k l h (by omega)
      by_cases c2 : 255 - (((joinL l).length + 1 : Nat) : Int) - 1 > 0
      · rw [if_pos c2]
        exact hj _ (fun hd => ⟨of_decide_eq_true hd, by omega⟩)
      · rw [if_neg c2]
        exact hj _ (fun hd => by cases hd)
theorem spec_l01Name_j1 (code : List Int) (p st : Int) (k : Nat) (l : List ByteArray) (h : SrcOk code p) (hl : (joinL l).length ≤ 300) (hk : 2000 ≤ k) : ∃ b q t, spec_l01Name.j1 k l code p st = some (b, q, t) ∧ SrcOk code q ∧ 1 ≤ b.size ∧ b.size ≤ 1001 := by
  obtain ⟨k, rfl⟩ : ∃ m, k = m + 1 := ⟨k - 1, by omega⟩
  obtain ⟨x, q, t, e, hq, hx0, hx1⟩ := spec_l01Next_eq code p st 20 h (by omega)
  rw [spec_l01Name.j1, e]
  simp only [Option.bind_some]
  by_cases c : x = 0
  · rw [if_pos c]
    exact spec_l01Name_l1 code 300 k [] q t hq (by simp [joinL]) (by omega) (by omega)
  · rw [if_neg c, spec_l01Join_eq l (by omega)]
    exact ⟨_, _, _, rfl, hq, by rw [size_join]; omega, by rw [size_join]; omega⟩
theorem spec_l01Name_l0 (code : List Int) : ∀ (d k : Nat) (l : List ByteArray) (n i p st : Int), SrcOk code p → 0 ≤ i → i + d = n → n ≤ 5 → (joinL l).length ≤ 8 * i.toNat → d + 2010 < k → ∃ b q t, spec_l01Name.l0 k l n i code p st = some (b, q, t) ∧ SrcOk code q ∧ 1 ≤ b.size ∧ b.size ≤ 1001 := by
  intro d
  induction d with
  | zero =>
    intro k l n i p st h h0 hi hn hl hk
    obtain ⟨k, rfl⟩ : ∃ m, k = m + 1 := ⟨k - 1, by omega⟩
    have hll := joinL_len_ge l
    obtain ⟨x, q, t, e, hq, hx0, hx1⟩ := spec_l01Next_eq code p st 3 h (by omega)
    rw [spec_l01Name.l0, if_neg (by omega), e]
    simp only [Option.bind_some]
    by_cases c : x > 0
    · rw [if_pos c, if_pos (by omega)]
      exact spec_l01Name_j1 code q t k _ hq (by rw [joinL_one]; have : (⟨#[101, 120, 97, 109, 112, 108, 101]⟩ : ByteArray).size = 7 := by decide
                                                omega) (by omega)
    · rw [if_neg c]
      exact spec_l01Name_j1 code q t k _ hq (by omega) (by omega)
  | succ d ih =>
    intro k l n i p st h h0 hi hn hl hk
    obtain ⟨k, rfl⟩ : ∃ m, k = m + 1 := ⟨k - 1, by omega⟩
    have hll := joinL_len_ge l
    obtain ⟨b, q, t, e, hq, hb⟩ := spec_l01Label_eq code p st k h (by omega)
    rw [spec_l01Name.l0, if_pos (by omega), e]
    simp only [Option.bind_some]
    rw [if_pos (by omega), w64 (by omega) (by omega)]
    exact ih k _ n (i + 1) q t hq (by omega) (by omega) hn (by rw [joinL_one]; omega) (by omega)
theorem spec_l01Name_eq (code : List Int) (p st : Int) (k : Nat) (h : SrcOk code p) (hk : 2100 ≤ k) : ∃ b q t, spec_l01Name.f k code p st = some (b, q, t) ∧ SrcOk code q ∧ 1 ≤ b.size ∧ b.size ≤ 1001 := by
  obtain ⟨x, q, t, e, hq, hx0, hx1⟩ := spec_l01Next_eq code p st 5 h (by omega)
  unfold spec_l01Name.f
  rw [e]
  simp only [Option.bind_some]
  exact spec_l01Name_l0 code x.toNat k [] x 0 q t hq (Int.le_refl _) (by omega) (by omega) (by simp [joinL]) (by omega)

end Go.Proofs.Ytpbmnokmpihnjaa.Pure
namespace Go.Proofs.Ytpbmnokmpihnjaa.Pure
open Go.RowKit Go.Proofs.Ytpbmnokmpihnjaa.F Go.Proofs.Ytpbmnokmpihnjaa.Base Go.Proofs.YtpbmnokmpihnjaaW.PrintWords Go.Proofs.YtpbmnokmpihnjaaW.PrintLast Go.Proofs.YtpbmnokmpihnjaaW.PrintMore
set_option linter.unusedVariables false
set_option linter.unusedSimpArgs false
theorem spec_l01Spoil_num (xs : List Int) : (strOfNums xs).size = xs.length := by rw [size_L, L_strOfNums, List.length_map]
theorem spec_l01Spoil_eq (code : List Int) (p st : Int) (a : ByteArray) (h : SrcOk code p) (h1 : 1 ≤ a.size) (h2 : a.size ≤ 2000) : ∃ b q t, spec_l01Spoil.f code p st a = some (b, q, t) ∧ SrcOk code q ∧ b.size ≤ a.size + 1 := by
  obtain ⟨x, q, t, e, hq, hx0, hx1⟩ := spec_l01Next_eq code p st 6 h (by omega)
  have hl := bytesOf_length a
  unfold spec_l01Spoil.f
  rw [if_neg (by omega), e]
  simp only [Option.bind_some]
  by_cases c0 : x = 0
  · rw [if_pos c0]; exact ⟨_, _, _, rfl, hq, by rw [ByteArray.size_append]; show a.size + 1 ≤ _; omega⟩
  rw [if_neg c0]
  by_cases c1 : x = 1
  · rw [if_pos c1, if_pos h1]; exact ⟨_, _, _, rfl, hq, by rw [spec_l01Spoil_num, List.length_take]; omega⟩
  rw [if_neg c1]
  by_cases c2 : x = 2
  · rw [if_pos c2]; exact ⟨_, _, _, rfl, hq, by show 0 ≤ _; omega⟩
  rw [if_neg c2]
  by_cases c3 : x = 3
  · rw [if_pos c3]
    obtain ⟨y, q2, t2, e2, hq2, hy0, hy1⟩ := spec_l01Next_eq code q t 256 hq (by omega)
    rw [e2]
    simp only [Option.bind_some]
    rw [if_pos h1]
    exact ⟨_, _, _, rfl, hq2, by rw [spec_l01Spoil_num, List.length_set]; omega⟩
  rw [if_neg c3]
  by_cases c4 : x = 4
  · rw [if_pos c4]; exact ⟨_, _, _, rfl, hq, by rw [ByteArray.size_append, spec_l01Spoil_num]; show 1 + _ ≤ _; omega⟩
  rw [if_neg c4]
  by_cases c5 : x = 5
  · rw [if_pos c5]
    obtain ⟨y, q2, t2, e2, hq2, hy0, hy1⟩ := spec_l01Next_eq code q t (a.size : Int) hq (by omega)
    rw [e2]
    simp only [Option.bind_some]
    rw [if_pos hy0, if_pos (by omega)]
    exact ⟨_, _, _, rfl, hq2, by rw [spec_l01Spoil_num, List.length_set]; omega⟩
  rw [if_neg c5]
  exact ⟨_, _, _, rfl, hq, by rw [spec_l01Spoil_num]; omega⟩

end Go.Proofs.Ytpbmnokmpihnjaa.Pure
namespace Go.Proofs.Ytpbmnokmpihnjaa.Pure
open Go.RowKit Go.Proofs.Ytpbmnokmpihnjaa.F Go.Proofs.Ytpbmnokmpihnjaa.Base Go.Proofs.YtpbmnokmpihnjaaW.PrintWords Go.Proofs.YtpbmnokmpihnjaaW.PrintLast Go.Proofs.YtpbmnokmpihnjaaW.PrintMore
set_option linter.unusedVariables false
set_option linter.unusedSimpArgs false
theorem spec_l01Raw_eq (code : List Int) (p st : Int) (k : Nat) (h : SrcOk code p) (hk : 2100 ≤ k) : ∃ b q t, spec_l01Raw.f k code p st = some (b, q, t) ∧ SrcOk code q ∧ b.size ≤ 2000 := by
  obtain ⟨b, q, t, e, hq, hb1, hb2⟩ := spec_l01Name_eq code p st k h hk
  unfold spec_l01Raw.f
  rw [e]
  simp only [Option.bind_some]
  obtain ⟨y, q2, t2, e2, hq2, hy0, hy1⟩ := spec_l01Next_eq code q t 8 hq (by omega)
  rw [e2]
  simp only [Option.bind_some]
  by_cases c : y = 0
  · rw [if_pos c]
    obtain ⟨z, q3, t3, e3, hq3, hz⟩ := spec_l01Spoil_eq code q2 t2 b hq2 hb1 (by omega)
    rw [e3]
    simp only [Option.bind_some]
    exact ⟨_, _, _, rfl, hq3, by omega⟩
  · rw [if_neg c]
    exact ⟨_, _, _, rfl, hq2, by omega⟩

end Go.Proofs.Ytpbmnokmpihnjaa.Pure
namespace Go.Proofs.Ytpbmnokmpihnjaa.Pure
open Go.RowKit Go.Proofs.Ytpbmnokmpihnjaa.F Go.Proofs.Ytpbmnokmpihnjaa.Base Go.Proofs.YtpbmnokmpihnjaaW.PrintWords Go.Proofs.YtpbmnokmpihnjaaW.PrintLast Go.Proofs.YtpbmnokmpihnjaaW.PrintMore
set_option linter.unusedVariables false
set_option linter.unusedSimpArgs false
theorem spec_DrawSameName_eq (code : List Int) (k : Nat) (h : code.length ≤ 1048576) (hk : 2100 ≤ k) : ∃ a b, spec_DrawSameName.f k code = some (a, b) := by
  unfold spec_DrawSameName.f
  rw [if_neg (by omega)]
  obtain ⟨a, q, t, e, hq, ha⟩ := spec_l01Raw_eq code 0 (spec_l01Begin.f code) k ⟨h, Int.le_refl _, by omega⟩ hk
  rw [e]
  simp only [Option.bind_some]
  obtain ⟨b, q2, t2, e2, hq2, hb⟩ := spec_l01Near_eq code q t a k hq ha (by omega)
  rw [e2]
  exact ⟨_, _, rfl⟩

end Go.Proofs.Ytpbmnokmpihnjaa.Pure
namespace Go.Proofs.Ytpbmnokmpihnjaa.Pure
open Go.RowKit Go.Proofs.Ytpbmnokmpihnjaa.F Go.Proofs.Ytpbmnokmpihnjaa.Base Go.Proofs.YtpbmnokmpihnjaaW.PrintWords Go.Proofs.YtpbmnokmpihnjaaW.PrintLast Go.Proofs.YtpbmnokmpihnjaaW.PrintMore
set_option linter.unusedVariables false
set_option linter.unusedSimpArgs false
theorem spec_NameOK_eq (a : ByteArray) (k : Nat) (hk : 400 ≤ k) : spec_NameOK.f k a = some (names (L a)).isSome := by
  unfold spec_NameOK.f
  rw [spec_l01Split_eq a k hk]
  cases names (L a) <;> simp [res]

end Go.Proofs.Ytpbmnokmpihnjaa.Pure
namespace Go.Proofs.Ytpbmnokmpihnjaa.Pure
open Go.RowKit Go.Proofs.Ytpbmnokmpihnjaa.F Go.Proofs.Ytpbmnokmpihnjaa.Base Go.Proofs.YtpbmnokmpihnjaaW.PrintWords Go.Proofs.YtpbmnokmpihnjaaW.PrintLast Go.Proofs.YtpbmnokmpihnjaaW.PrintMore
set_option linter.unusedVariables false
set_option linter.unusedSimpArgs false
-- base: BaseOrd BaseName
theorem NO_j3 (a : ByteArray) (x : List ByteArray) (hx : names (L a) = some x) (k : Nat) (hk : 10000 ≤ k) : laws_FnNameOrder.j3 (k + 1) a false = some true := by
  obtain ⟨g, hj, hl⟩ := names_good hx
  rw [laws_FnNameOrder.j3, if_neg (by simp), impl_Ancestor_eq a 1 k (by omega), hx]
  simp only [Option.bind_some, toL]
  cases x with
  | nil =>
    have e : L a = [0] := by rw [← hj, L_join]; rfl
    rw [if_pos e]
    simp [ancN]
  | cons s r =>
    have gr : GoodL r := fun t ht => g t (by simp [ht])
    have hsz := (g s (by simp)).1
    have hjl := joinL_cons s r
    have hlr : (joinL r).length + 1 ≤ 255 := by
      rw [hjl] at hl
      simp only [List.length_cons, List.length_append] at hl
      omega
    have e : ¬ L a = [0] := by
      rw [← hj, L_join, hjl]
      intro h
      simp at h
    rw [if_neg e]
    have ea : ancN (some (s :: r)) 1 = (join r, 0) := by simp [ancN]; omega
    have hr : names (L (join r)) = some r := by rw [L_join]; exact names_of_join gr hlr
    rw [ea]
    simp only [if_true]
    rw [impl_CompareNames_eq _ _ k hk]
    have ec : cmpN (join r) a = -1 := by
      unfold cmpN
      rw [hr, hx]
      simp only [List.reverse_cons]
      exact cmpR_longer _ _
    rw [ec]
    simp only [Option.bind_some, if_true]
    rw [impl_IsUnder_eq _ _ k (by omega), impl_IsUnder_eq _ _ k (by omega)]
    have u1 : underN a (join r) = true := by
      unfold underN
      rw [hr, hx]
      simp [underL]
    have u2 : underN (join r) a = false := by
      unfold underN
      rw [hr, hx]
      simp [underL]
    rw [u1, u2]
    simp
theorem NO_j2 (a : ByteArray) (x : List ByteArray) (hx : names (L a) = some x) (p q r : Int) (h1 : p ≤ 0 → q ≤ 0 → r ≤ 0) (h2 : 0 ≤ p → 0 ≤ q → 0 ≤ r) (k : Nat) (hk : 10000 ≤ k) : laws_FnNameOrder.j2 (k + 1 + 1) a p q r false = some true := by
  have h3 := NO_j3 a x hx k hk
  rw [laws_FnNameOrder.j2, if_neg (by simp)]
  by_cases c1 : p ≤ 0
  · rw [if_pos c1]
    by_cases c2 : q ≤ 0
    · rw [if_pos c2, if_neg (by have := h1 c1 c2; omega)]
      by_cases c3 : p ≥ 0
      · rw [if_pos c3]
        by_cases c4 : q ≥ 0
        · rw [if_pos c4, decide_eq_false (by have := h2 c3 c4; omega)]; exact h3
        · rw [if_neg c4]; exact h3
      · rw [if_neg c3]; exact h3
    · rw [if_neg c2]
      by_cases c3 : p ≥ 0
      · rw [if_pos c3, if_pos (by omega), decide_eq_false (by have := h2 c3 (by omega); omega)]; exact h3
      · rw [if_neg c3]; exact h3
  · rw [if_neg c1, if_pos (by omega)]
    by_cases c4 : q ≥ 0
    · rw [if_pos c4, decide_eq_false (by have := h2 (by omega) c4; omega)]; exact h3
    · rw [if_neg c4]; exact h3
theorem NO_j1 (a b d : ByteArray) (x y z : List ByteArray) (hx : names (L a) = some x) (hy : names (L b) = some y) (hz : names (L d) = some z) (k : Nat) (hk : 10000 ≤ k) : laws_FnNameOrder.j1 (k + 1 + 1 + 1) a b d false = some true := by
  have eN : ∀ {a b : ByteArray} {x y : List ByteArray}, names (L a) = some x → names (L b) = some y → cmpN a b = cmpR x.reverse y.reverse := by
    intro a b x y hx hy
    unfold cmpN
    rw [hx, hy]
  have O := cmpB_ord.lex
  rw [laws_FnNameOrder.j1, if_neg (by simp), impl_CompareNames_eq _ _ _ (by omega), impl_CompareNames_eq _ _ _ (by omega), impl_CompareNames_eq _ _ _ (by omega), impl_CompareNames_eq _ _ _ (by omega), impl_SameName_eq _ _ _ (by omega), eN hx hy, eN hy hz, eN hx hz, eN hy hx, sameN_iff hx hy]
  simp only [Option.bind_some]
  have hr := O.r (x.reverse.map fun s => L (foldB s)) (y.reverse.map fun s => L (foldB s))
  have hn := O.n (x.reverse.map fun s => L (foldB s)) (y.reverse.map fun s => L (foldB s))
  have hle := O.le (x.reverse.map fun s => L (foldB s)) (y.reverse.map fun s => L (foldB s)) (z.reverse.map fun s => L (foldB s))
  have hge := O.ge (x.reverse.map fun s => L (foldB s)) (y.reverse.map fun s => L (foldB s)) (z.reverse.map fun s => L (foldB s))
  simp only [← cmpR_lex] at hr hn hle hge
  have h0 := cmpR_zero x y
  have h3 := NO_j2 a x hx (cmpR x.reverse y.reverse) (cmpR y.reverse z.reverse) (cmpR x.reverse z.reverse) hle hge k hk
  rw [if_pos (by rw [w64 (by omega) (by omega)]; exact hn)]
  have e : ((cmpR x.reverse y.reverse == 0) != decide (x.map foldB = y.map foldB)) = false := by
    by_cases h : x.map foldB = y.map foldB
    · rw [decide_eq_true h, h0.2 h]; rfl
    · rw [decide_eq_false h, beq_eq_false_iff_ne.2 (fun e => h (h0.1 e))]; rfl
  rw [if_neg (by rw [e]; simp), if_neg (by omega), decide_eq_false (by omega)]
  exact h3
theorem FnNameOrder : laws_FnNameOrder.Pure := by
  intro l0 l1 _ _ _ _ _ _
  refine ⟨10000 + 1 + 1 + 1 + 1, ?_⟩
  unfold laws_FnNameOrder.f
  have one : ∀ l : List Int, l.length ≤ 1048576 → ∃ a b, spec_DrawCompareNames.f (10000 + 1 + 1 + 1) l = some (a, b) := by
    intro l hl
    obtain ⟨a, b, e⟩ := spec_DrawSameName_eq l (10000 + 1 + 1 + 1) hl (by omega)
    unfold spec_DrawCompareNames.f
    rw [e]
    exact ⟨_, _, rfl⟩
  by_cases c0 : (l0.length : Int) > 1048576
  · rw [if_pos c0, laws_FnNameOrder.j0, if_pos rfl]
  rw [if_neg c0]
  by_cases c1 : (l1.length : Int) > 1048576
  · rw [decide_eq_true c1, laws_FnNameOrder.j0, if_pos rfl]
  rw [decide_eq_false c1, laws_FnNameOrder.j0, if_neg (by simp)]
  obtain ⟨a, b, e1⟩ := one l0 (by omega)
  obtain ⟨d, f, e2⟩ := one l1 (by omega)
  rw [e1, e2]
  simp only [Option.bind_some]
  have stop : ∀ a b d : ByteArray, laws_FnNameOrder.j1 (10000 + 1 + 1 + 1) a b d true = some true := by
    intro a b d
    rw [laws_FnNameOrder.j1, if_pos rfl]
  rw [spec_NameOK_eq a _ (by omega), spec_NameOK_eq b _ (by omega), spec_NameOK_eq d _ (by omega)]
  simp only [Option.bind_some]
  cases hx : names (L a) with
  | none => simp [stop]
  | some x =>
    cases hy : names (L b) with
    | none => simp [stop]
    | some y =>
      cases hz : names (L d) with
      | none => simp [stop]
      | some z =>
        simp only [Option.isSome_some, if_true, Bool.not_true]
        exact NO_j1 a b d x y z hx hy hz 10000 (by omega)

end Go.Proofs.Ytpbmnokmpihnjaa.Pure
namespace Go.Proofs.Ytpbmnokmpihnjaa.fnNameOrder
open Go.ChangeShapes Go.WideShapes Go.ChangeAt Go.RowKit
open Go.ChangeMaps (open_string shut_string)
set_option linter.unusedVariables false
theorem own : ownKnob Try.prog.godebug = none := by kernel_rfl
theorem laidOut : laidOutB Try.prog = true := by kernel_rfl
def IsRow (k : IntKind) (w : World) (a : Option Addr) (len cap : Nat) (zs : List Int) : Prop :=
  (a = none ∧ len = 0 ∧ cap = 0 ∧ zs = []) ∨
  ∃ x, a = some x ∧ len ≤ cap ∧ cap ≤ maxLen ∧ zs.length = cap ∧ (∀ i, i < zs.length → w.cell? (x.add i) = some (.int k (zs.getD i 0))) ∧ ∀ n ∈ zs, (Lit.int k n).wf = true
set_option maxRecDepth 100000 in
theorem lifted (os : Os) (started : os.Started) (H : Type) (enc : TypeId × Value → H) :
    ReturnsInHanded {} Try.checked os 7 .any (Rows.fnNameOrderSpec.pre6 enc Try.prog Try.f7 Rows.fnNameOrderRow.domain false) (Rows.fnNameOrderSpec.post enc Try.prog Try.f7 false true false false) := by
  refine returnsInHanded_of_change_sized (C := Try.checked) own started (by kernel_rfl) Try.func7
    (ChangeSpec.witness6 (enc := enc) (C := Try.checked) false ⟨#[], #[.slice none 0 0, .slice none 0 0], []⟩ 8 (by kernel_rfl) (by kernel_rfl) (by kernel_rfl) (by kernel_rfl)) ?_
  intro W base args ds gs before hval0 hW hcnd hsz0 _
  have hsz : (DataW.weightsEach Try.prog (Try.f7.params.toList ++ Rows.fnNameOrderSpec.plain.varTypes Try.prog) (ds ++ gs)).all (· ≤ reachBytes) = true := hsz0
  have hval : ∀ (j : Nat) t v, Try.f7.params[j]? = some t → args[j]? = some v → Value.okWide Try.prog W .any base t v := hval0
  have hW' := hW
  obtain ⟨p, q, hA0, hV, rfl, hfz, hnd⟩ := hW
  have hA : DataW.TrodAll enc Try.prog W 0 (fun _ => true) true Try.f7.params.toList args.toList ds p := hA0
  rw [Try.params7] at hA hval hsz
  obtain ⟨v0, vs0, d0, ds0, p0, q0, hargs, rfl, rfl, h0, r0⟩ := trodAll_cons hA
  obtain ⟨v1, vs1, d1, ds1, p1, q1, rfl, rfl, rfl, h1, r1⟩ := trodAll_cons r0
  obtain ⟨rfl, rfl, rfl⟩ := trodAll_nil r1
  obtain rfl : args = #[v0, v1] := by cases args; simp_all
  obtain ⟨rfl, rfl⟩ := trodVars_none hV
  obtain ⟨a0, len0, cap0, rfl⟩ := okWide_slice Try.underlying30 (hval 0 30 v0 rfl rfl)
  have k0 := h0
  have lt0 : ∀ x ∈ p0, x.block < W.heap.size := by obtain ⟨m, hm⟩ := k0; exact DataW.trod_lt m _ _ _ hm
  obtain ⟨z0, w0⟩ : ∃ zs, IsRow .u8 W a0 len0 cap0 zs := by
    obtain ⟨fuel, hf⟩ := h0
    rcases open_ints Try.underlying30 Try.underlying5 (by kernel_rfl) hf with ⟨hcs, _⟩ | ⟨x, l, c, zs, hcs, _, hl, hm, hz, _, hcell, hwz⟩
    · simp [Value.cells] at hcs
      obtain ⟨rfl, rfl, rfl⟩ := hcs
      exact ⟨[], .inl ⟨rfl, rfl, rfl, rfl⟩⟩
    · simp [Value.cells] at hcs
      obtain ⟨rfl, rfl, rfl⟩ := hcs
      exact ⟨zs, .inr ⟨_, rfl, hl, hm, by simpa using hz, hcell, hwz⟩⟩
  have y0 : len0 * 1 ≤ 140737488351232 := Go.Proofs.YtpbmnokmpihnjaaW.PrintWords.sized_ints hsz (j := 0) (t := 30) rfl rfl Try.underlying30 Try.underlying5 (by kernel_rfl) (by kernel_rfl) h0
  obtain ⟨a1, len1, cap1, rfl⟩ := okWide_slice Try.underlying30 (hval 1 30 v1 rfl rfl)
  have k1 := h1
  have lt1 : ∀ x ∈ p1, x.block < W.heap.size := by obtain ⟨m, hm⟩ := k1; exact DataW.trod_lt m _ _ _ hm
  obtain ⟨z1, w1⟩ : ∃ zs, IsRow .u8 W a1 len1 cap1 zs := by
    obtain ⟨fuel, hf⟩ := h1
    rcases open_ints Try.underlying30 Try.underlying5 (by kernel_rfl) hf with ⟨hcs, _⟩ | ⟨x, l, c, zs, hcs, _, hl, hm, hz, _, hcell, hwz⟩
    · simp [Value.cells] at hcs
      obtain ⟨rfl, rfl, rfl⟩ := hcs
      exact ⟨[], .inl ⟨rfl, rfl, rfl, rfl⟩⟩
    · simp [Value.cells] at hcs
      obtain ⟨rfl, rfl, rfl⟩ := hcs
      exact ⟨zs, .inr ⟨_, rfl, hl, hm, by simpa using hz, hcell, hwz⟩⟩
  have y1 : len1 * 1 ≤ 140737488351232 := Go.Proofs.YtpbmnokmpihnjaaW.PrintWords.sized_ints hsz (j := 1) (t := 30) rfl rfl Try.underlying30 Try.underlying5 (by kernel_rfl) (by kernel_rfl) h1
  clear hA0 hval0 hsz0 hsz
  refine (F.laws_FnNameOrder.walk Pure.FnNameOrder a0 len0 cap0 z0 a1 len1 cap1 z1 W w0 y0 w1 y1).mono fun e W' ⟨he, bel⟩ => ?_
  subst he
  exact ⟨_, rfl, _, _, _, [], _, [], hW', trodAll_mk1 (shut_bool Try.underlying4 _), (trodAll_cons_mk (Below.trod laidOut (by kernel_rfl) (of_decide_eq_true (by kernel_rfl)) k0 bel lt0) (trodAll_cons_mk (Below.trod laidOut (by kernel_rfl) (of_decide_eq_true (by kernel_rfl)) k1 bel lt1) trodAll_mk0)), rfl, bel.frame _, fun h => by cases h⟩
theorem over : Rows.fnNameOrderRow.holds Try.pinned (OpenSpec.ofChange Rows.fnNameOrderSpec) :=
  OpenClaim.holds_of_wide 7 Try.f7 rfl rfl rfl rfl rfl rfl rfl ⟨rfl, rfl, rfl, rfl, rfl⟩ rfl rfl rfl rfl rfl (by kernel_rfl) Try.func7 (by kernel_rfl)
    (of_decide_eq_true (by kernel_rfl)) (by unfold Func.isWrapper; first | (rw [if_pos (by decide +kernel)]; kernel_rfl) | (rw [if_neg (by decide +kernel)]; exact ⟨rfl, rfl⟩))
    (fun os started H enc _ => lifted os started H enc)
theorem proved : Rows.FnNameOrderSaid := over
#print axioms proved
end Go.Proofs.Ytpbmnokmpihnjaa.fnNameOrder
namespace Go.Proofs.Ytpbmnokmpihnjaa
/-- The row, under a short name, for the claim. -/
theorem fnNameOrder_holds : Rows.FnNameOrderSaid := fnNameOrder.proved
end Go.Proofs.Ytpbmnokmpihnjaa
