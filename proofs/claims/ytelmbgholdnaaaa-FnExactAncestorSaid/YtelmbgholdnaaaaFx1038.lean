-- Written by a program of this session (wip/myprint.py, over the kit's print). Not trusted: Lean checks it.
import Derived.Test.YtelmbgholdnaaaaFx0
import Derived.Test.YtelmbgholdnaaaaFx1049
import Derived.Test.YtelmbgholdnaaaaFx1057
namespace Go.Proofs.Ytelmbgholdnaaaa.F
open Go Go.Shelf Go.RowKit Go.Proofs.YtelmbgholdnaaaaW.PrintWords Go.Proofs.YtelmbgholdnaaaaW.PrintLast Go.Proofs.YtelmbgholdnaaaaW.PrintMore
attribute [local go_sem] max2_int min2_int max_two min_two max_three min_three max_four min_four   -- for this text's walks alone
set_option linter.unusedVariables false
set_option linter.unusedSimpArgs false

/-! ### impl_Ancestor: function 38 -/
def impl_Ancestor.f (k : Nat) (a0 : ByteArray) (a1 : Int) : Option (ByteArray × Int) := (impl_labelsOf.f k a0).bind fun bt101 => (if bt101.2 = true then (if a1 < 0 then (some ((⟨#[]⟩ : ByteArray), 32)) else (if a1 > (bt101.1.length : Int) then (some ((⟨#[]⟩ : ByteArray), 32)) else (if 0 ≤ a1 then (if a1 ≤ (bt101.1.length : Int) then ((impl_joined.f (bt101.1.drop (a1 : Int).toNat)).bind fun t109 => (some (t109, 0))) else (none)) else (none)))) else (some ((⟨#[]⟩ : ByteArray), 32)))
theorem impl_Ancestor.mono : ∀ a0 a1 k, LeO (impl_Ancestor.f k a0 a1) (impl_Ancestor.f (k + 1) a0 a1) := by
  intro a0 a1 k
  unfold impl_Ancestor.f
  repeat' first
      | (with_reducible exact impl_labelsOf.mono _ _)
      | (with_reducible exact LeO.refl _)
      | (with_reducible exact LeO.none _)
      | (with_reducible refine LeO.ite ?_ ?_)
      | (with_reducible refine LeO.bind ?_ (fun _ => ?_))
      | exact impl_labelsOf.mono _ _
      | exact LeO.none _
      | refine LeO.ite ?_ ?_
      | refine LeO.bind ?_ (fun _ => ?_)
set_option maxHeartbeats 8000000 in
set_option maxRecDepth 100000 in
theorem impl_Ancestor.calls (k : Nat) (a0 : ByteArray) (a1 : Int) (r1 : ByteArray) (r2 : Int) (w : World) (h : impl_Ancestor.f k a0 a1 = some (r1, r2)) :
    Calls Try.prog 38 #[.string a0, .int .i64 a1] w fun e w' => e = .returned (.tuple #[.string r1, .int .i64 r2]) ∧ Below w.heap.size w w' := by
  have HB := Aside0.mk (Below.refl w.heap.size w)
  have H : ((impl_labelsOf.f k a0).bind fun bt101 => (if bt101.2 = true then (if a1 < 0 then (some ((⟨#[]⟩ : ByteArray), 32)) else (if a1 > (bt101.1.length : Int) then (some ((⟨#[]⟩ : ByteArray), 32)) else (if 0 ≤ a1 then (if a1 ≤ (bt101.1.length : Int) then ((impl_joined.f (bt101.1.drop (a1 : Int).toNat)).bind fun t109 => (some (t109, 0))) else (none)) else (none)))) else (some ((⟨#[]⟩ : ByteArray), 32)))) = some (r1, r2) := h
  clear h
  replace H := Option.bind_eq_some_iff.mp H
  obtain ⟨⟨t101, t102⟩, A30, H⟩ := H
  replace H : (if t102 = true then (if a1 < 0 then (some ((⟨#[]⟩ : ByteArray), 32)) else (if a1 > (t101.length : Int) then (some ((⟨#[]⟩ : ByteArray), 32)) else (if 0 ≤ a1 then (if a1 ≤ (t101.length : Int) then ((impl_joined.f (t101.drop (a1 : Int).toNat)).bind fun t109 => (some (t109, 0))) else (none)) else (none)))) else (some ((⟨#[]⟩ : ByteArray), 32))) = some (r1, r2) := H
  have A3 := Aside0.mk A30
  clear A30
  by_cases c4 : t102 = true
  · subst c4
    have H1 : (if a1 < 0 then (some ((⟨#[]⟩ : ByteArray), 32)) else (if a1 > (t101.length : Int) then (some ((⟨#[]⟩ : ByteArray), 32)) else (if 0 ≤ a1 then (if a1 ≤ (t101.length : Int) then ((impl_joined.f (t101.drop (a1 : Int).toNat)).bind fun t109 => (some (t109, 0))) else (none)) else (none)))) = some (r1, r2) := by rw [if_pos rfl] at H; exact H
    clear H
    have H := H1
    clear H1
    by_cases c5 : a1 < 0
    · rw [if_pos c5] at H
      have c5b0 : decide (a1 < 0) = true := decide_eq_true c5
      clear c5
      simp only [Option.some.injEq, Prod.mk.injEq] at H
      obtain ⟨rfl, rfl⟩ := H
      go_enter Try.func38, Try.ntmps38
      go_wp2_with (first | ((with_reducible refine gate_callee (f := 49) rfl ?_); refine goesL_ (some 10) rfl rfl Try.func49 (by kernel_rfl) rfl #[.string a0] rfl (by (try simp only [List.map_toArray, List.map_cons, List.map_nil]); first | done | rfl | (simp only [List.length_drop, List.length_take]; rfl)) ?_; (with_reducible refine (impl_labelsOf.calls k a0 t101 true _ A3.out).mono ?_); rintro e w6 ⟨v103, rfl, ho0, hb⟩; refine ⟨_, rfl, ?_⟩; have n0_ := Aside0.mk (Kd.R_lower ho0 (below_size (by repeat (first | (with_reducible first | exact HB.out | apply below_alloc | apply pw_below_drewN | apply below_drew1) | exact HB.out)))); have n1_ := Aside0.mk (below_step (by repeat (first | (with_reducible first | exact HB.out | apply below_alloc | apply pw_below_drewN | apply below_drew1) | exact HB.out)) hb); clear HB; have HO104 := n0_; have HB := n1_; clear n0_ n1_; (try clear hb); (try clear hb2); (try clear hk); (try clear hi); (try clear ho0)))
      go_ret2
      exact ⟨by first | rfl | (simp [errW_none, errW_some] <;> rfl) | (simp [*, errW_none, errW_some] <;> rfl), by repeat (first | (with_reducible first | exact HB.out | apply below_alloc | apply pw_below_drewN | apply below_drew1) | exact HB.out)⟩
    · rw [if_neg c5] at H
      have c5b0 : decide (a1 < 0) = false := decide_eq_false c5
      clear c5
      by_cases c7 : a1 > (t101.length : Int)
      · rw [if_pos c7] at H
        have c7b0 : decide ((t101.length : Int) < a1) = true := decide_eq_true c7
        clear c7
        simp only [Option.some.injEq, Prod.mk.injEq] at H
        obtain ⟨rfl, rfl⟩ := H
        go_enter Try.func38, Try.ntmps38
        go_wp2_with (first | ((with_reducible refine gate_callee (f := 49) rfl ?_); refine goesL_ (some 10) rfl rfl Try.func49 (by kernel_rfl) rfl #[.string a0] rfl (by (try simp only [List.map_toArray, List.map_cons, List.map_nil]); first | done | rfl | (simp only [List.length_drop, List.length_take]; rfl)) ?_; (with_reducible refine (impl_labelsOf.calls k a0 t101 true _ A3.out).mono ?_); rintro e w8 ⟨v103, rfl, ho0, hb⟩; refine ⟨_, rfl, ?_⟩; have n0_ := Aside0.mk (Kd.R_lower ho0 (below_size (by repeat (first | (with_reducible first | exact HB.out | apply below_alloc | apply pw_below_drewN | apply below_drew1) | exact HB.out)))); have n1_ := Aside0.mk (below_step (by repeat (first | (with_reducible first | exact HB.out | apply below_alloc | apply pw_below_drewN | apply below_drew1) | exact HB.out)) hb); clear HB; have HO104 := n0_; have HB := n1_; clear n0_ n1_; (try clear hb); (try clear hb2); (try clear hk); (try clear hi); (try clear ho0); obtain ⟨Ao9, co9, eo9⟩ := Kd.R_slice HO104.out; subst eo9))
        go_ret2
        exact ⟨by first | rfl | (simp [errW_none, errW_some] <;> rfl) | (simp [*, errW_none, errW_some] <;> rfl), by repeat (first | (with_reducible first | exact HB.out | apply below_alloc | apply pw_below_drewN | apply below_drew1) | exact HB.out)⟩
      · rw [if_neg c7] at H
        have c7b0 : decide ((t101.length : Int) < a1) = false := decide_eq_false c7
        clear c7
        by_cases c10 : 0 ≤ a1
        · rw [if_pos c10] at H
          have c10b0 := eq_true c10
          have c10b1 : decide (0 ≤ a1) = true := decide_eq_true c10
          clear c10
          by_cases c11 : a1 ≤ (t101.length : Int)
          · rw [if_pos c11] at H
            have c11b0 := eq_true c11
            have c11b1 : decide (a1 ≤ (t101.length : Int)) = true := decide_eq_true c11
            clear c11
            obtain ⟨y105, hy105⟩ : ∃ y_ : List ByteArray, y_ = (t101.drop (a1 : Int).toNat) := ⟨_, rfl⟩
            replace H : ((impl_joined.f y105).bind fun t109 => (some (t109, 0))) = some (r1, r2) := by first | (rw [hy105]; with_reducible exact H) | (have H2_ := (Option.bind_some _ _).symm.trans H; rw [hy105]; with_reducible exact H2_) | (have H2_ := (Option.bind_some _ _).symm.trans H; with_reducible exact H2_) | with_reducible exact H | (rw [hy105]; exact H) | exact H
            have Ny105 := Aside0.mk hy105
            clear hy105
            replace H := Option.bind_eq_some_iff.mp H
            obtain ⟨t109, A120, H⟩ := H
            replace H : (some (t109, 0)) = some (r1, r2) := H
            have A12 := Aside0.mk A120
            clear A120
            simp only [Option.some.injEq, Prod.mk.injEq] at H
            obtain ⟨rfl, rfl⟩ := H
            go_enter Try.func38, Try.ntmps38
            go_wp2_with (first | ((with_reducible refine gate_callee (f := 49) rfl ?_); refine goesL_ (some 10) rfl rfl Try.func49 (by kernel_rfl) rfl #[.string a0] rfl (by (try simp only [List.map_toArray, List.map_cons, List.map_nil]); first | done | rfl | (simp only [List.length_drop, List.length_take]; rfl)) ?_; (with_reducible refine (impl_labelsOf.calls k a0 t101 true _ A3.out).mono ?_); rintro e w13 ⟨v103, rfl, ho0, hb⟩; refine ⟨_, rfl, ?_⟩; have n0_ := Aside0.mk (Kd.R_lower ho0 (below_size (by repeat (first | (with_reducible first | exact HB.out | apply below_alloc | apply pw_below_drewN | apply below_drew1) | exact HB.out)))); have n1_ := Aside0.mk (below_step (by repeat (first | (with_reducible first | exact HB.out | apply below_alloc | apply pw_below_drewN | apply below_drew1) | exact HB.out)) hb); clear HB; have HO104 := n0_; have HB := n1_; clear n0_ n1_; (try clear hb); (try clear hb2); (try clear hk); (try clear hi); (try clear ho0); obtain ⟨Ao14, co14, eo14⟩ := Kd.R_slice HO104.out; subst eo14; have q15 : (a1 : Int) ≤ ((t101.length : Int) : Int) := of_decide_eq_true (by first | (with_reducible assumption) | assumption); obtain ⟨i015, hi015, _, hsz15, _⟩ := info_parts info9; have hroom15 : t101.length ≤ co14 := (Kd.R_reads' HO104.out).2.1; have hC15 : Kd.C Kd.string _ Ao14 t101.length t101 := (Kd.R_reads' HO104.out).2.2; have q015 : (0 : Int) ≤ (a1 : Int) := of_decide_eq_true (by first | (with_reducible assumption) | assumption); have hcut15 := cut_from (P := Try.prog) 36 9 .i64 Try.underlying36 hi015 1 hsz15 Ao14 t101.length co14 a1 q015 q15; have hr15 := Kd.C_drop (m := (a1 : Int).toNat) (c := co14) hC15 (by omega) hroom15; obtain ⟨A15, hA15⟩ : ∃ A1, A1 = (if co14 = (a1 : Int).toNat then Ao14 else (Ao14 : Option Addr).map (·.add ((a1 : Int).toNat * 1))) := ⟨_, rfl⟩; obtain ⟨c15, hc15⟩ : ∃ c1, c1 = co14 - (a1 : Int).toNat := ⟨_, rfl⟩; have hy15 : y105.length = t101.length - (a1 : Int).toNat := (by rw [Ny105.out, List.length_drop] <;> omega); rw [show (t101).drop (a1 : Int).toNat = y105 from Ny105.out.symm] at hr15; replace hr15 : Kd.C Kd.string _ A15 y105.length y105 := (by rw [hA15]; exact hr15); rw [← hy15, ← hA15, ← hc15] at hcut15; have HR108 := Aside0.mk hr15; have HC108 := Aside0.mk (show y105.length ≤ c15 from by rw [hy15, hc15]; exact Nat.sub_le_sub_right hroom15 _); clear hr15 hC15 hroom15 hi015 hsz15 hc15; have KY15 := Aside0.mk hy15; have KA15 := Aside0.mk hA15; clear hy15 hA15; have KL15 := Aside0.mk (show (a1 : Int).toNat ≤ t101.length from by omega); replace q15 := eq_true q15) | ((with_reducible refine gate_callee (f := 57) rfl ?_); refine goesL_ (some 28) rfl rfl Try.func57 (by kernel_rfl) rfl #[.slice A15 y105.length c15] rfl (by (try simp only [List.map_toArray, List.map_cons, List.map_nil]); first | done | rfl | (simp only [List.length_drop, List.length_take]; rfl)) ?_; (with_reducible refine (impl_joined.calls _ _ y105 t109 _ ?side1 ?side2 A12.out).mono ?_); (case side1 => repeat (first | exact (by repeat (first | (with_reducible exact HR108.out) | (with_reducible refine Kd.C_alloc ?_ _) | (with_reducible refine Kd.C_drewN ?_ _) | (with_reducible refine Kd.C_drew ?_) | exact HR108.out)) | (with_reducible refine Kd.C_alloc ?_ _) | (with_reducible refine Kd.C_drewN ?_ _) | (with_reducible refine Kd.C_drew ?_))); (case side2 => exact HC108.out); rintro e w16 ⟨rfl, hb⟩; refine ⟨_, rfl, ?_⟩; have n0_ := Aside0.mk (Kd.R_below (by (with_reducible repeat (first | apply Kd.R_alloc | apply Kd.R_drewN | apply Kd.R_drew)); exact HO104.out) hb); have n1_ := Aside0.mk (Kd.C_below (by repeat (first | (with_reducible exact HR108.out) | (with_reducible refine Kd.C_alloc ?_ _) | (with_reducible refine Kd.C_drewN ?_ _) | (with_reducible refine Kd.C_drew ?_) | exact HR108.out)) hb); have n2_ := Aside0.mk (below_step (by repeat (first | (with_reducible first | exact HB.out | apply below_alloc | apply pw_below_drewN | apply below_drew1) | exact HB.out)) hb); clear HO104; clear HR108; clear HB; have HO104 := n0_; have HR108 := n1_; have HB := n2_; clear n0_ n1_ n2_; (try clear hb); (try clear hb2); (try clear hk); (try clear hi)))
            go_ret2
            exact ⟨by first | rfl | (simp [errW_none, errW_some] <;> rfl) | (simp [*, errW_none, errW_some] <;> rfl), by repeat (first | (with_reducible first | exact HB.out | apply below_alloc | apply pw_below_drewN | apply below_drew1) | exact HB.out)⟩
          · rw [if_neg c11] at H
            exact absurd H (by simp)
        · rw [if_neg c10] at H
          exact absurd H (by simp)
  · replace c4 := Bool.eq_false_iff.mpr c4
    subst c4
    have H1 : (some ((⟨#[]⟩ : ByteArray), 32)) = some (r1, r2) := by rw [if_neg (show ¬ (false = true) by decide)] at H; exact H
    clear H
    have H := H1
    clear H1
    simp only [Option.some.injEq, Prod.mk.injEq] at H
    obtain ⟨rfl, rfl⟩ := H
    go_enter Try.func38, Try.ntmps38
    go_wp2_with (first | ((with_reducible refine gate_callee (f := 49) rfl ?_); refine goesL_ (some 10) rfl rfl Try.func49 (by kernel_rfl) rfl #[.string a0] rfl (by (try simp only [List.map_toArray, List.map_cons, List.map_nil]); first | done | rfl | (simp only [List.length_drop, List.length_take]; rfl)) ?_; (with_reducible refine (impl_labelsOf.calls k a0 t101 false _ A3.out).mono ?_); rintro e w17 ⟨v103, rfl, ho0, hb⟩; refine ⟨_, rfl, ?_⟩; have n0_ := Aside0.mk (Kd.R_lower ho0 (below_size (by repeat (first | (with_reducible first | exact HB.out | apply below_alloc | apply pw_below_drewN | apply below_drew1) | exact HB.out)))); have n1_ := Aside0.mk (below_step (by repeat (first | (with_reducible first | exact HB.out | apply below_alloc | apply pw_below_drewN | apply below_drew1) | exact HB.out)) hb); clear HB; have HO104 := n0_; have HB := n1_; clear n0_ n1_; (try clear hb); (try clear hb2); (try clear hk); (try clear hi); (try clear ho0)))
    go_ret2
    exact ⟨by first | rfl | (simp [errW_none, errW_some] <;> rfl) | (simp [*, errW_none, errW_some] <;> rfl), by repeat (first | (with_reducible first | exact HB.out | apply below_alloc | apply pw_below_drewN | apply below_drew1) | exact HB.out)⟩

end Go.Proofs.Ytelmbgholdnaaaa.F
