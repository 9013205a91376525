/- Part 4 of 5 of the proof of FnExactCheckChanges: what each Go function on its way computes, that the Go code does just this, and what the law says of it. No condition beyond the statement's own. -/
import Derived.Test.YtpnbhblmfglkcaaDoorMFnExactCheckChanges3
namespace Go.Proofs.YtpnbhblmfglkcaaDoor.F
open Go Go.Shelf Go.RowKit Go.Proofs.YtpnbhblmfglkcaaDoorW.PrintWords Go.Proofs.YtpnbhblmfglkcaaDoorW.PrintLast Go.Proofs.YtpnbhblmfglkcaaDoorW.PrintMore
attribute [local go_sem] max2_int min2_int max_two min_two max_three min_three max_four min_four   -- for this text's walks alone
set_option linter.unusedVariables false
set_option linter.unusedSimpArgs false

/-! ### impl_recordOk: function 57 -/
def impl_recordOk.f (k : Nat) (a0_0 : ByteArray) (a0_1 : Int) (a0_2 : Int) (a0_3 : Int) (a0_4 : ByteArray) : Option (Bool) := (impl_NameOK.f k a0_0).bind fun t102 => (if t102 = true then ((impl_within.f a0_1 0 65535).bind fun t103 => (if t103 = true then ((impl_within.f a0_2 0 65535).bind fun t104 => (if t104 = true then ((impl_within.f a0_3 0 4294967295).bind fun t105 => (if t105 = true then (if a0_4.toList = ([] : List UInt8) then (some true) else ((impl_CheckData.f k a0_1 a0_4).bind fun t106 => (some (t106 == 0)))) else (some false))) else (some false))) else (some false))) else (some false))
theorem impl_recordOk.mono : ∀ a0 a1 a2 a3 a4 k, LeO (impl_recordOk.f k a0 a1 a2 a3 a4) (impl_recordOk.f (k + 1) a0 a1 a2 a3 a4) := by
 intro a0 a1 a2 a3 a4 k
 unfold impl_recordOk.f
 repeat' first
   | (with_reducible exact impl_CheckData.mono _ _ _)
   | (with_reducible exact impl_NameOK.mono _ _)
   | (with_reducible exact LeO.refl _)
   | (with_reducible exact LeO.none _)
   | (with_reducible refine LeO.ite ?_ ?_)
   | (with_reducible refine LeO.bind ?_ (fun _ => ?_))
   | exact impl_CheckData.mono _ _ _
   | exact impl_NameOK.mono _ _
   | exact LeO.none _
   | refine LeO.ite ?_ ?_
   | refine LeO.bind ?_ (fun _ => ?_)
set_option maxHeartbeats 8000000 in
set_option maxRecDepth 100000 in
theorem impl_recordOk.calls (k : Nat) (a0_0 : ByteArray) (a0_1 : Int) (a0_2 : Int) (a0_3 : Int) (a0_4 : ByteArray) (r : Bool) (w : World) (h : impl_recordOk.f k a0_0 a0_1 a0_2 a0_3 a0_4 = some r) (hG : Glob w) :
  Calls Tryd.prog 57 #[.agg #[.string a0_0, .int .i64 a0_1, .int .i64 a0_2, .int .i64 a0_3, .string a0_4]] w fun e w' => e = .returned (.bool r) ∧ Below w.heap.size w w' := by
 have HG := Aside0.mk hG
 clear hG
 have hu50 := Tryd.underlying50
 have HB := Aside0.mk (Below.refl w.heap.size w)
 have H : ((impl_NameOK.f k a0_0).bind fun t102 => (if t102 = true then ((impl_within.f a0_1 0 65535).bind fun t103 => (if t103 = true then ((impl_within.f a0_2 0 65535).bind fun t104 => (if t104 = true then ((impl_within.f a0_3 0 4294967295).bind fun t105 => (if t105 = true then (if a0_4.toList = ([] : List UInt8) then (some true) else ((impl_CheckData.f k a0_1 a0_4).bind fun t106 => (some (t106 == 0)))) else (some false))) else (some false))) else (some false))) else (some false))) = some r := h
 clear h
 replace H := Option.bind_eq_some_iff.mp H
 obtain ⟨t102, A20, H⟩ := H
 replace H : (if t102 = true then ((impl_within.f a0_1 0 65535).bind fun t103 => (if t103 = true then ((impl_within.f a0_2 0 65535).bind fun t104 => (if t104 = true then ((impl_within.f a0_3 0 4294967295).bind fun t105 => (if t105 = true then (if a0_4.toList = ([] : List UInt8) then (some true) else ((impl_CheckData.f k a0_1 a0_4).bind fun t106 => (some (t106 == 0)))) else (some false))) else (some false))) else (some false))) else (some false)) = some r := H
 have A2 := Aside0.mk A20
 clear A20
 by_cases c3 : t102 = true
 · subst c3
  have H1 : ((impl_within.f a0_1 0 65535).bind fun t103 => (if t103 = true then ((impl_within.f a0_2 0 65535).bind fun t104 => (if t104 = true then ((impl_within.f a0_3 0 4294967295).bind fun t105 => (if t105 = true then (if a0_4.toList = ([] : List UInt8) then (some true) else ((impl_CheckData.f k a0_1 a0_4).bind fun t106 => (some (t106 == 0)))) else (some false))) else (some false))) else (some false))) = some r := by rw [if_pos rfl] at H; exact H
  clear H
  have H := H1
  clear H1
  replace H := Option.bind_eq_some_iff.mp H
  obtain ⟨t103, A40, H⟩ := H
  replace H : (if t103 = true then ((impl_within.f a0_2 0 65535).bind fun t104 => (if t104 = true then ((impl_within.f a0_3 0 4294967295).bind fun t105 => (if t105 = true then (if a0_4.toList = ([] : List UInt8) then (some true) else ((impl_CheckData.f k a0_1 a0_4).bind fun t106 => (some (t106 == 0)))) else (some false))) else (some false))) else (some false)) = some r := H
  have A4 := Aside0.mk A40
  clear A40
  by_cases c5 : t103 = true
  · subst c5
   have H1 : ((impl_within.f a0_2 0 65535).bind fun t104 => (if t104 = true then ((impl_within.f a0_3 0 4294967295).bind fun t105 => (if t105 = true then (if a0_4.toList = ([] : List UInt8) then (some true) else ((impl_CheckData.f k a0_1 a0_4).bind fun t106 => (some (t106 == 0)))) else (some false))) else (some false))) = some r := by rw [if_pos rfl] at H; exact H
   clear H
   have H := H1
   clear H1
   replace H := Option.bind_eq_some_iff.mp H
   obtain ⟨t104, A60, H⟩ := H
   replace H : (if t104 = true then ((impl_within.f a0_3 0 4294967295).bind fun t105 => (if t105 = true then (if a0_4.toList = ([] : List UInt8) then (some true) else ((impl_CheckData.f k a0_1 a0_4).bind fun t106 => (some (t106 == 0)))) else (some false))) else (some false)) = some r := H
   have A6 := Aside0.mk A60
   clear A60
   by_cases c7 : t104 = true
   · subst c7
    have H1 : ((impl_within.f a0_3 0 4294967295).bind fun t105 => (if t105 = true then (if a0_4.toList = ([] : List UInt8) then (some true) else ((impl_CheckData.f k a0_1 a0_4).bind fun t106 => (some (t106 == 0)))) else (some false))) = some r := by rw [if_pos rfl] at H; exact H
    clear H
    have H := H1
    clear H1
    replace H := Option.bind_eq_some_iff.mp H
    obtain ⟨t105, A80, H⟩ := H
    replace H : (if t105 = true then (if a0_4.toList = ([] : List UInt8) then (some true) else ((impl_CheckData.f k a0_1 a0_4).bind fun t106 => (some (t106 == 0)))) else (some false)) = some r := H
    have A8 := Aside0.mk A80
    clear A80
    by_cases c9 : t105 = true
    · subst c9
     have H1 : (if a0_4.toList = ([] : List UInt8) then (some true) else ((impl_CheckData.f k a0_1 a0_4).bind fun t106 => (some (t106 == 0)))) = some r := by rw [if_pos rfl] at H; exact H
     clear H
     have H := H1
     clear H1
     by_cases c10 : a0_4.toList = ([] : List UInt8)
     · rw [if_pos c10] at H
      have c10b0 : (a0_4.toList == ([] : List UInt8)) = true := beq_iff_eq.mpr c10
      have c10b1 : (a0_4.toList != ([] : List UInt8)) = false := bne_eq_false_iff_eq.mpr c10
      clear c10
      obtain rfl := Option.some.inj H
      go_enter Tryd.func57, Tryd.ntmps57
      go_wp2_with (first | ((with_reducible refine gate_dst (N := 1) rfl ?_); refine box_event ?hg (N := 1) ?hd (cs := #[.string a0_0, .int .i64 a0_1, .int .i64 a0_2, .int .i64 a0_3, .string a0_4]) (t := 50) ?hr ?_; (case hd => rfl); (case hg => rfl); (case hr => first | (go_simp; done) | (go_simp; rfl)); intro gb101 hg w11 hbox hb; have n0_ := Aside0.mk (below_step (by repeat (first | (with_reducible first | exact HB.out | apply below_alloc | apply pw_below_drewN | apply below_drew1) | exact HB.out)) hb); have n1_ := Aside0.mk (hbox); have n2_ := Aside0.mk ((by rw [hg]; exact (below_size (by repeat (first | (with_reducible first | exact HB.out | apply below_alloc | apply pw_below_drewN | apply below_drew1) | exact HB.out))) : w.heap.size ≤ gb101)); have n3_ := Aside0.mk ((by rw [hg]; exact (below_size (by repeat (first | (with_reducible first | exact HB.out | apply below_alloc | apply pw_below_drewN | apply below_drew1) | exact HB.out))) : w.heap.size ≤ gb101)); clear HB; have HB := n0_; have BK101 := n1_; have GW101 := n2_; have GE101 := n3_; clear n0_ n1_ n2_ n3_; clear hb hbox hg; have hcz12_0 : w11.cell? ⟨gb101, 0, none⟩ = some (.string a0_0) := (blk_cell BK101.out 0).trans rfl; have hcz12_1 : w11.cell? ⟨gb101, 1, none⟩ = some (.int .i64 a0_1) := (blk_cell BK101.out 1).trans rfl; have hcz12_2 : w11.cell? ⟨gb101, 2, none⟩ = some (.int .i64 a0_2) := (blk_cell BK101.out 2).trans rfl; have hcz12_3 : w11.cell? ⟨gb101, 3, none⟩ = some (.int .i64 a0_3) := (blk_cell BK101.out 3).trans rfl; have hcz12_4 : w11.cell? ⟨gb101, 4, none⟩ = some (.string a0_4) := (blk_cell BK101.out 4).trans rfl; have hfz12_0 := blk_frozen BK101.out 0; have hfz12_1 := blk_frozen BK101.out 1; have hfz12_2 := blk_frozen BK101.out 2; have hfz12_3 := blk_frozen BK101.out 3; have hfz12_4 := blk_frozen BK101.out 4) | ((with_reducible refine gate_callee (f := 26) rfl ?_); refine goesL_ (some 5) rfl rfl Tryd.func26 (by kernel_rfl) rfl #[.string a0_0] rfl (by (try simp only [List.map_toArray, List.map_cons, List.map_nil]); first | done | rfl | (simp only [List.length_drop, List.length_take]; rfl)) ?_; (with_reducible refine (impl_NameOK.calls k a0_0 true _ A2.out).mono ?_); rintro e w13 ⟨rfl, hb⟩; refine ⟨_, rfl, ?_⟩; have n0_ := Aside0.mk (blk_below (g := gb101) (o := .cells #[.string a0_0, .int .i64 a0_1, .int .i64 a0_2, .int .i64 a0_3, .string a0_4] 50 (0, 0)) (by (with_reducible repeat (first | refine blk_drewN ?_ _ | refine blk_drew ?_ | refine blk_alloc ?_ _)); exact BK101.out) hb); have n1_ := Aside0.mk (below_step (by repeat (first | (with_reducible first | exact HB.out | apply below_alloc | apply pw_below_drewN | apply below_drew1 | refine below_set ?_ GE101.out) | exact HB.out)) hb); clear BK101; clear HB; have BK101 := n0_; have HB := n1_; clear n0_ n1_; (try clear hb); (try clear hb2); (try clear hk); (try clear hi); have hcz14_0 : w13.cell? ⟨gb101, 0, none⟩ = some (.string a0_0) := (blk_cell BK101.out 0).trans rfl; have hcz14_1 : w13.cell? ⟨gb101, 1, none⟩ = some (.int .i64 a0_1) := (blk_cell BK101.out 1).trans rfl; have hcz14_2 : w13.cell? ⟨gb101, 2, none⟩ = some (.int .i64 a0_2) := (blk_cell BK101.out 2).trans rfl; have hcz14_3 : w13.cell? ⟨gb101, 3, none⟩ = some (.int .i64 a0_3) := (blk_cell BK101.out 3).trans rfl; have hcz14_4 : w13.cell? ⟨gb101, 4, none⟩ = some (.string a0_4) := (blk_cell BK101.out 4).trans rfl; have hfz14_0 := blk_frozen BK101.out 0; have hfz14_1 := blk_frozen BK101.out 1; have hfz14_2 := blk_frozen BK101.out 2; have hfz14_3 := blk_frozen BK101.out 3; have hfz14_4 := blk_frozen BK101.out 4) | (go_at_call 40; (with_reducible refine (impl_within.calls a0_1 0 65535 true _ A4.out).mono ?_); rintro e w' ⟨rfl, ⟨nd, rfl⟩⟩) | (go_at_call 40; (with_reducible refine (impl_within.calls a0_2 0 65535 true _ A6.out).mono ?_); rintro e w' ⟨rfl, ⟨nd, rfl⟩⟩) | (go_at_call 40; (with_reducible refine (impl_within.calls a0_3 0 4294967295 true _ A8.out).mono ?_); rintro e w' ⟨rfl, ⟨nd, rfl⟩⟩))
      go_ret
      exact ⟨by first | rfl | (simp [errW_none, errW_some] <;> rfl) | (simp [*, errW_none, errW_some] <;> rfl), by repeat (first | (with_reducible first | exact HB.out | apply below_alloc | apply pw_below_drewN | apply below_drew1 | refine below_set ?_ GE101.out) | exact HB.out)⟩
     · rw [if_neg c10] at H
      have c10b0 : (a0_4.toList == ([] : List UInt8)) = false := beq_eq_false_iff_ne.mpr c10
      have c10b1 : (a0_4.toList != ([] : List UInt8)) = true := bne_iff_ne.mpr c10
      replace H := Option.bind_eq_some_iff.mp H
      obtain ⟨t106, A150, H⟩ := H
      replace H : (some (t106 == 0)) = some r := H
      have A15 := Aside0.mk A150
      clear A150
      obtain rfl := Option.some.inj H
      go_enter Tryd.func57, Tryd.ntmps57
      go_wp2_with (first | ((with_reducible refine gate_dst (N := 1) rfl ?_); refine box_event ?hg (N := 1) ?hd (cs := #[.string a0_0, .int .i64 a0_1, .int .i64 a0_2, .int .i64 a0_3, .string a0_4]) (t := 50) ?hr ?_; (case hd => rfl); (case hg => rfl); (case hr => first | (go_simp; done) | (go_simp; rfl)); intro gb101 hg w16 hbox hb; have n0_ := Aside0.mk (below_step (by repeat (first | (with_reducible first | exact HB.out | apply below_alloc | apply pw_below_drewN | apply below_drew1) | exact HB.out)) hb); have n1_ := Aside0.mk (hbox); have n2_ := Aside0.mk ((by rw [hg]; exact (below_size (by repeat (first | (with_reducible first | exact HB.out | apply below_alloc | apply pw_below_drewN | apply below_drew1) | exact HB.out))) : w.heap.size ≤ gb101)); have n3_ := Aside0.mk ((by rw [hg]; exact (below_size (by repeat (first | (with_reducible first | exact HB.out | apply below_alloc | apply pw_below_drewN | apply below_drew1) | exact HB.out))) : w.heap.size ≤ gb101)); clear HB; have HB := n0_; have BK101 := n1_; have GW101 := n2_; have GE101 := n3_; clear n0_ n1_ n2_ n3_; clear hb hbox hg; have hcz17_0 : w16.cell? ⟨gb101, 0, none⟩ = some (.string a0_0) := (blk_cell BK101.out 0).trans rfl; have hcz17_1 : w16.cell? ⟨gb101, 1, none⟩ = some (.int .i64 a0_1) := (blk_cell BK101.out 1).trans rfl; have hcz17_2 : w16.cell? ⟨gb101, 2, none⟩ = some (.int .i64 a0_2) := (blk_cell BK101.out 2).trans rfl; have hcz17_3 : w16.cell? ⟨gb101, 3, none⟩ = some (.int .i64 a0_3) := (blk_cell BK101.out 3).trans rfl; have hcz17_4 : w16.cell? ⟨gb101, 4, none⟩ = some (.string a0_4) := (blk_cell BK101.out 4).trans rfl; have hfz17_0 := blk_frozen BK101.out 0; have hfz17_1 := blk_frozen BK101.out 1; have hfz17_2 := blk_frozen BK101.out 2; have hfz17_3 := blk_frozen BK101.out 3; have hfz17_4 := blk_frozen BK101.out 4) | ((with_reducible refine gate_callee (f := 26) rfl ?_); refine goesL_ (some 5) rfl rfl Tryd.func26 (by kernel_rfl) rfl #[.string a0_0] rfl (by (try simp only [List.map_toArray, List.map_cons, List.map_nil]); first | done | rfl | (simp only [List.length_drop, List.length_take]; rfl)) ?_; (with_reducible refine (impl_NameOK.calls k a0_0 true _ A2.out).mono ?_); rintro e w18 ⟨rfl, hb⟩; refine ⟨_, rfl, ?_⟩; have n0_ := Aside0.mk (blk_below (g := gb101) (o := .cells #[.string a0_0, .int .i64 a0_1, .int .i64 a0_2, .int .i64 a0_3, .string a0_4] 50 (0, 0)) (by (with_reducible repeat (first | refine blk_drewN ?_ _ | refine blk_drew ?_ | refine blk_alloc ?_ _)); exact BK101.out) hb); have n1_ := Aside0.mk (below_step (by repeat (first | (with_reducible first | exact HB.out | apply below_alloc | apply pw_below_drewN | apply below_drew1 | refine below_set ?_ GE101.out) | exact HB.out)) hb); clear BK101; clear HB; have BK101 := n0_; have HB := n1_; clear n0_ n1_; (try clear hb); (try clear hb2); (try clear hk); (try clear hi); have hcz19_0 : w18.cell? ⟨gb101, 0, none⟩ = some (.string a0_0) := (blk_cell BK101.out 0).trans rfl; have hcz19_1 : w18.cell? ⟨gb101, 1, none⟩ = some (.int .i64 a0_1) := (blk_cell BK101.out 1).trans rfl; have hcz19_2 : w18.cell? ⟨gb101, 2, none⟩ = some (.int .i64 a0_2) := (blk_cell BK101.out 2).trans rfl; have hcz19_3 : w18.cell? ⟨gb101, 3, none⟩ = some (.int .i64 a0_3) := (blk_cell BK101.out 3).trans rfl; have hcz19_4 : w18.cell? ⟨gb101, 4, none⟩ = some (.string a0_4) := (blk_cell BK101.out 4).trans rfl; have hfz19_0 := blk_frozen BK101.out 0; have hfz19_1 := blk_frozen BK101.out 1; have hfz19_2 := blk_frozen BK101.out 2; have hfz19_3 := blk_frozen BK101.out 3; have hfz19_4 := blk_frozen BK101.out 4) | (go_at_call 40; (with_reducible refine (impl_within.calls a0_1 0 65535 true _ A4.out).mono ?_); rintro e w' ⟨rfl, ⟨nd, rfl⟩⟩) | (go_at_call 40; (with_reducible refine (impl_within.calls a0_2 0 65535 true _ A6.out).mono ?_); rintro e w' ⟨rfl, ⟨nd, rfl⟩⟩) | (go_at_call 40; (with_reducible refine (impl_within.calls a0_3 0 4294967295 true _ A8.out).mono ?_); rintro e w' ⟨rfl, ⟨nd, rfl⟩⟩) | (go_at_call 29; (with_reducible refine (impl_CheckData.calls k a0_1 a0_4 t106 _ A15.out (HG.out.below (by repeat (first | (with_reducible first | exact HB.out | apply below_alloc | apply pw_below_drewN | apply below_drew1 | refine below_set ?_ GE101.out) | exact HB.out)))).mono ?_); rintro e w20 ⟨rfl, hb⟩; have n0_ := Aside0.mk (blk_below (g := gb101) (o := .cells #[.string a0_0, .int .i64 a0_1, .int .i64 a0_2, .int .i64 a0_3, .string a0_4] 50 (0, 0)) (by (with_reducible repeat (first | refine blk_drewN ?_ _ | refine blk_drew ?_ | refine blk_alloc ?_ _)); exact BK101.out) hb); have n1_ := Aside0.mk (below_step (by repeat (first | (with_reducible first | exact HB.out | apply below_alloc | apply pw_below_drewN | apply below_drew1 | refine below_set ?_ GE101.out) | exact HB.out)) hb); clear BK101; clear HB; have BK101 := n0_; have HB := n1_; clear n0_ n1_; (try clear hb); (try clear hb2); (try clear hk); (try clear hi)))
      go_ret
      exact ⟨by first | rfl | (simp [errW_none, errW_some] <;> rfl) | (simp [*, errW_none, errW_some] <;> rfl), by repeat (first | (with_reducible first | exact HB.out | apply below_alloc | apply pw_below_drewN | apply below_drew1 | refine below_set ?_ GE101.out) | exact HB.out)⟩
    · replace c9 := Bool.eq_false_iff.mpr c9
     subst c9
     have H1 : (some false) = some r := by rw [if_neg (show ¬ (false = true) by decide)] at H; exact H
     clear H
     have H := H1
     clear H1
     obtain rfl := Option.some.inj H
     go_enter Tryd.func57, Tryd.ntmps57
     go_wp2_with (first | ((with_reducible refine gate_dst (N := 1) rfl ?_); refine box_event ?hg (N := 1) ?hd (cs := #[.string a0_0, .int .i64 a0_1, .int .i64 a0_2, .int .i64 a0_3, .string a0_4]) (t := 50) ?hr ?_; (case hd => rfl); (case hg => rfl); (case hr => first | (go_simp; done) | (go_simp; rfl)); intro gb101 hg w21 hbox hb; have n0_ := Aside0.mk (below_step (by repeat (first | (with_reducible first | exact HB.out | apply below_alloc | apply pw_below_drewN | apply below_drew1) | exact HB.out)) hb); have n1_ := Aside0.mk (hbox); have n2_ := Aside0.mk ((by rw [hg]; exact (below_size (by repeat (first | (with_reducible first | exact HB.out | apply below_alloc | apply pw_below_drewN | apply below_drew1) | exact HB.out))) : w.heap.size ≤ gb101)); have n3_ := Aside0.mk ((by rw [hg]; exact (below_size (by repeat (first | (with_reducible first | exact HB.out | apply below_alloc | apply pw_below_drewN | apply below_drew1) | exact HB.out))) : w.heap.size ≤ gb101)); clear HB; have HB := n0_; have BK101 := n1_; have GW101 := n2_; have GE101 := n3_; clear n0_ n1_ n2_ n3_; clear hb hbox hg; have hcz22_0 : w21.cell? ⟨gb101, 0, none⟩ = some (.string a0_0) := (blk_cell BK101.out 0).trans rfl; have hcz22_1 : w21.cell? ⟨gb101, 1, none⟩ = some (.int .i64 a0_1) := (blk_cell BK101.out 1).trans rfl; have hcz22_2 : w21.cell? ⟨gb101, 2, none⟩ = some (.int .i64 a0_2) := (blk_cell BK101.out 2).trans rfl; have hcz22_3 : w21.cell? ⟨gb101, 3, none⟩ = some (.int .i64 a0_3) := (blk_cell BK101.out 3).trans rfl; have hcz22_4 : w21.cell? ⟨gb101, 4, none⟩ = some (.string a0_4) := (blk_cell BK101.out 4).trans rfl; have hfz22_0 := blk_frozen BK101.out 0; have hfz22_1 := blk_frozen BK101.out 1; have hfz22_2 := blk_frozen BK101.out 2; have hfz22_3 := blk_frozen BK101.out 3; have hfz22_4 := blk_frozen BK101.out 4) | ((with_reducible refine gate_callee (f := 26) rfl ?_); refine goesL_ (some 5) rfl rfl Tryd.func26 (by kernel_rfl) rfl #[.string a0_0] rfl (by (try simp only [List.map_toArray, List.map_cons, List.map_nil]); first | done | rfl | (simp only [List.length_drop, List.length_take]; rfl)) ?_; (with_reducible refine (impl_NameOK.calls k a0_0 true _ A2.out).mono ?_); rintro e w23 ⟨rfl, hb⟩; refine ⟨_, rfl, ?_⟩; have n0_ := Aside0.mk (blk_below (g := gb101) (o := .cells #[.string a0_0, .int .i64 a0_1, .int .i64 a0_2, .int .i64 a0_3, .string a0_4] 50 (0, 0)) (by (with_reducible repeat (first | refine blk_drewN ?_ _ | refine blk_drew ?_ | refine blk_alloc ?_ _)); exact BK101.out) hb); have n1_ := Aside0.mk (below_step (by repeat (first | (with_reducible first | exact HB.out | apply below_alloc | apply pw_below_drewN | apply below_drew1 | refine below_set ?_ GE101.out) | exact HB.out)) hb); clear BK101; clear HB; have BK101 := n0_; have HB := n1_; clear n0_ n1_; (try clear hb); (try clear hb2); (try clear hk); (try clear hi); have hcz24_0 : w23.cell? ⟨gb101, 0, none⟩ = some (.string a0_0) := (blk_cell BK101.out 0).trans rfl; have hcz24_1 : w23.cell? ⟨gb101, 1, none⟩ = some (.int .i64 a0_1) := (blk_cell BK101.out 1).trans rfl; have hcz24_2 : w23.cell? ⟨gb101, 2, none⟩ = some (.int .i64 a0_2) := (blk_cell BK101.out 2).trans rfl; have hcz24_3 : w23.cell? ⟨gb101, 3, none⟩ = some (.int .i64 a0_3) := (blk_cell BK101.out 3).trans rfl; have hcz24_4 : w23.cell? ⟨gb101, 4, none⟩ = some (.string a0_4) := (blk_cell BK101.out 4).trans rfl; have hfz24_0 := blk_frozen BK101.out 0; have hfz24_1 := blk_frozen BK101.out 1; have hfz24_2 := blk_frozen BK101.out 2; have hfz24_3 := blk_frozen BK101.out 3; have hfz24_4 := blk_frozen BK101.out 4) | (go_at_call 40; (with_reducible refine (impl_within.calls a0_1 0 65535 true _ A4.out).mono ?_); rintro e w' ⟨rfl, ⟨nd, rfl⟩⟩) | (go_at_call 40; (with_reducible refine (impl_within.calls a0_2 0 65535 true _ A6.out).mono ?_); rintro e w' ⟨rfl, ⟨nd, rfl⟩⟩) | (go_at_call 40; (with_reducible refine (impl_within.calls a0_3 0 4294967295 false _ A8.out).mono ?_); rintro e w' ⟨rfl, ⟨nd, rfl⟩⟩))
     go_ret
     exact ⟨by first | rfl | (simp [errW_none, errW_some] <;> rfl) | (simp [*, errW_none, errW_some] <;> rfl), by repeat (first | (with_reducible first | exact HB.out | apply below_alloc | apply pw_below_drewN | apply below_drew1 | refine below_set ?_ GE101.out) | exact HB.out)⟩
   · replace c7 := Bool.eq_false_iff.mpr c7
    subst c7
    have H1 : (some false) = some r := by rw [if_neg (show ¬ (false = true) by decide)] at H; exact H
    clear H
    have H := H1
    clear H1
    obtain rfl := Option.some.inj H
    go_enter Tryd.func57, Tryd.ntmps57
    go_wp2_with (first | ((with_reducible refine gate_dst (N := 1) rfl ?_); refine box_event ?hg (N := 1) ?hd (cs := #[.string a0_0, .int .i64 a0_1, .int .i64 a0_2, .int .i64 a0_3, .string a0_4]) (t := 50) ?hr ?_; (case hd => rfl); (case hg => rfl); (case hr => first | (go_simp; done) | (go_simp; rfl)); intro gb101 hg w25 hbox hb; have n0_ := Aside0.mk (below_step (by repeat (first | (with_reducible first | exact HB.out | apply below_alloc | apply pw_below_drewN | apply below_drew1) | exact HB.out)) hb); have n1_ := Aside0.mk (hbox); have n2_ := Aside0.mk ((by rw [hg]; exact (below_size (by repeat (first | (with_reducible first | exact HB.out | apply below_alloc | apply pw_below_drewN | apply below_drew1) | exact HB.out))) : w.heap.size ≤ gb101)); have n3_ := Aside0.mk ((by rw [hg]; exact (below_size (by repeat (first | (with_reducible first | exact HB.out | apply below_alloc | apply pw_below_drewN | apply below_drew1) | exact HB.out))) : w.heap.size ≤ gb101)); clear HB; have HB := n0_; have BK101 := n1_; have GW101 := n2_; have GE101 := n3_; clear n0_ n1_ n2_ n3_; clear hb hbox hg; have hcz26_0 : w25.cell? ⟨gb101, 0, none⟩ = some (.string a0_0) := (blk_cell BK101.out 0).trans rfl; have hcz26_1 : w25.cell? ⟨gb101, 1, none⟩ = some (.int .i64 a0_1) := (blk_cell BK101.out 1).trans rfl; have hcz26_2 : w25.cell? ⟨gb101, 2, none⟩ = some (.int .i64 a0_2) := (blk_cell BK101.out 2).trans rfl; have hcz26_3 : w25.cell? ⟨gb101, 3, none⟩ = some (.int .i64 a0_3) := (blk_cell BK101.out 3).trans rfl; have hcz26_4 : w25.cell? ⟨gb101, 4, none⟩ = some (.string a0_4) := (blk_cell BK101.out 4).trans rfl; have hfz26_0 := blk_frozen BK101.out 0; have hfz26_1 := blk_frozen BK101.out 1; have hfz26_2 := blk_frozen BK101.out 2; have hfz26_3 := blk_frozen BK101.out 3; have hfz26_4 := blk_frozen BK101.out 4) | ((with_reducible refine gate_callee (f := 26) rfl ?_); refine goesL_ (some 5) rfl rfl Tryd.func26 (by kernel_rfl) rfl #[.string a0_0] rfl (by (try simp only [List.map_toArray, List.map_cons, List.map_nil]); first | done | rfl | (simp only [List.length_drop, List.length_take]; rfl)) ?_; (with_reducible refine (impl_NameOK.calls k a0_0 true _ A2.out).mono ?_); rintro e w27 ⟨rfl, hb⟩; refine ⟨_, rfl, ?_⟩; have n0_ := Aside0.mk (blk_below (g := gb101) (o := .cells #[.string a0_0, .int .i64 a0_1, .int .i64 a0_2, .int .i64 a0_3, .string a0_4] 50 (0, 0)) (by (with_reducible repeat (first | refine blk_drewN ?_ _ | refine blk_drew ?_ | refine blk_alloc ?_ _)); exact BK101.out) hb); have n1_ := Aside0.mk (below_step (by repeat (first | (with_reducible first | exact HB.out | apply below_alloc | apply pw_below_drewN | apply below_drew1 | refine below_set ?_ GE101.out) | exact HB.out)) hb); clear BK101; clear HB; have BK101 := n0_; have HB := n1_; clear n0_ n1_; (try clear hb); (try clear hb2); (try clear hk); (try clear hi); have hcz28_0 : w27.cell? ⟨gb101, 0, none⟩ = some (.string a0_0) := (blk_cell BK101.out 0).trans rfl; have hcz28_1 : w27.cell? ⟨gb101, 1, none⟩ = some (.int .i64 a0_1) := (blk_cell BK101.out 1).trans rfl; have hcz28_2 : w27.cell? ⟨gb101, 2, none⟩ = some (.int .i64 a0_2) := (blk_cell BK101.out 2).trans rfl; have hcz28_3 : w27.cell? ⟨gb101, 3, none⟩ = some (.int .i64 a0_3) := (blk_cell BK101.out 3).trans rfl; have hcz28_4 : w27.cell? ⟨gb101, 4, none⟩ = some (.string a0_4) := (blk_cell BK101.out 4).trans rfl; have hfz28_0 := blk_frozen BK101.out 0; have hfz28_1 := blk_frozen BK101.out 1; have hfz28_2 := blk_frozen BK101.out 2; have hfz28_3 := blk_frozen BK101.out 3; have hfz28_4 := blk_frozen BK101.out 4) | (go_at_call 40; (with_reducible refine (impl_within.calls a0_1 0 65535 true _ A4.out).mono ?_); rintro e w' ⟨rfl, ⟨nd, rfl⟩⟩) | (go_at_call 40; (with_reducible refine (impl_within.calls a0_2 0 65535 false _ A6.out).mono ?_); rintro e w' ⟨rfl, ⟨nd, rfl⟩⟩))
    go_ret
    exact ⟨by first | rfl | (simp [errW_none, errW_some] <;> rfl) | (simp [*, errW_none, errW_some] <;> rfl), by repeat (first | (with_reducible first | exact HB.out | apply below_alloc | apply pw_below_drewN | apply below_drew1 | refine below_set ?_ GE101.out) | exact HB.out)⟩
  · replace c5 := Bool.eq_false_iff.mpr c5
   subst c5
   have H1 : (some false) = some r := by rw [if_neg (show ¬ (false = true) by decide)] at H; exact H
   clear H
   have H := H1
   clear H1
   obtain rfl := Option.some.inj H
   go_enter Tryd.func57, Tryd.ntmps57
   go_wp2_with (first | ((with_reducible refine gate_dst (N := 1) rfl ?_); refine box_event ?hg (N := 1) ?hd (cs := #[.string a0_0, .int .i64 a0_1, .int .i64 a0_2, .int .i64 a0_3, .string a0_4]) (t := 50) ?hr ?_; (case hd => rfl); (case hg => rfl); (case hr => first | (go_simp; done) | (go_simp; rfl)); intro gb101 hg w29 hbox hb; have n0_ := Aside0.mk (below_step (by repeat (first | (with_reducible first | exact HB.out | apply below_alloc | apply pw_below_drewN | apply below_drew1) | exact HB.out)) hb); have n1_ := Aside0.mk (hbox); have n2_ := Aside0.mk ((by rw [hg]; exact (below_size (by repeat (first | (with_reducible first | exact HB.out | apply below_alloc | apply pw_below_drewN | apply below_drew1) | exact HB.out))) : w.heap.size ≤ gb101)); have n3_ := Aside0.mk ((by rw [hg]; exact (below_size (by repeat (first | (with_reducible first | exact HB.out | apply below_alloc | apply pw_below_drewN | apply below_drew1) | exact HB.out))) : w.heap.size ≤ gb101)); clear HB; have HB := n0_; have BK101 := n1_; have GW101 := n2_; have GE101 := n3_; clear n0_ n1_ n2_ n3_; clear hb hbox hg; have hcz30_0 : w29.cell? ⟨gb101, 0, none⟩ = some (.string a0_0) := (blk_cell BK101.out 0).trans rfl; have hcz30_1 : w29.cell? ⟨gb101, 1, none⟩ = some (.int .i64 a0_1) := (blk_cell BK101.out 1).trans rfl; have hcz30_2 : w29.cell? ⟨gb101, 2, none⟩ = some (.int .i64 a0_2) := (blk_cell BK101.out 2).trans rfl; have hcz30_3 : w29.cell? ⟨gb101, 3, none⟩ = some (.int .i64 a0_3) := (blk_cell BK101.out 3).trans rfl; have hcz30_4 : w29.cell? ⟨gb101, 4, none⟩ = some (.string a0_4) := (blk_cell BK101.out 4).trans rfl; have hfz30_0 := blk_frozen BK101.out 0; have hfz30_1 := blk_frozen BK101.out 1; have hfz30_2 := blk_frozen BK101.out 2; have hfz30_3 := blk_frozen BK101.out 3; have hfz30_4 := blk_frozen BK101.out 4) | ((with_reducible refine gate_callee (f := 26) rfl ?_); refine goesL_ (some 5) rfl rfl Tryd.func26 (by kernel_rfl) rfl #[.string a0_0] rfl (by (try simp only [List.map_toArray, List.map_cons, List.map_nil]); first | done | rfl | (simp only [List.length_drop, List.length_take]; rfl)) ?_; (with_reducible refine (impl_NameOK.calls k a0_0 true _ A2.out).mono ?_); rintro e w31 ⟨rfl, hb⟩; refine ⟨_, rfl, ?_⟩; have n0_ := Aside0.mk (blk_below (g := gb101) (o := .cells #[.string a0_0, .int .i64 a0_1, .int .i64 a0_2, .int .i64 a0_3, .string a0_4] 50 (0, 0)) (by (with_reducible repeat (first | refine blk_drewN ?_ _ | refine blk_drew ?_ | refine blk_alloc ?_ _)); exact BK101.out) hb); have n1_ := Aside0.mk (below_step (by repeat (first | (with_reducible first | exact HB.out | apply below_alloc | apply pw_below_drewN | apply below_drew1 | refine below_set ?_ GE101.out) | exact HB.out)) hb); clear BK101; clear HB; have BK101 := n0_; have HB := n1_; clear n0_ n1_; (try clear hb); (try clear hb2); (try clear hk); (try clear hi); have hcz32_0 : w31.cell? ⟨gb101, 0, none⟩ = some (.string a0_0) := (blk_cell BK101.out 0).trans rfl; have hcz32_1 : w31.cell? ⟨gb101, 1, none⟩ = some (.int .i64 a0_1) := (blk_cell BK101.out 1).trans rfl; have hcz32_2 : w31.cell? ⟨gb101, 2, none⟩ = some (.int .i64 a0_2) := (blk_cell BK101.out 2).trans rfl; have hcz32_3 : w31.cell? ⟨gb101, 3, none⟩ = some (.int .i64 a0_3) := (blk_cell BK101.out 3).trans rfl; have hcz32_4 : w31.cell? ⟨gb101, 4, none⟩ = some (.string a0_4) := (blk_cell BK101.out 4).trans rfl; have hfz32_0 := blk_frozen BK101.out 0; have hfz32_1 := blk_frozen BK101.out 1; have hfz32_2 := blk_frozen BK101.out 2; have hfz32_3 := blk_frozen BK101.out 3; have hfz32_4 := blk_frozen BK101.out 4) | (go_at_call 40; (with_reducible refine (impl_within.calls a0_1 0 65535 false _ A4.out).mono ?_); rintro e w' ⟨rfl, ⟨nd, rfl⟩⟩))
   go_ret
   exact ⟨by first | rfl | (simp [errW_none, errW_some] <;> rfl) | (simp [*, errW_none, errW_some] <;> rfl), by repeat (first | (with_reducible first | exact HB.out | apply below_alloc | apply pw_below_drewN | apply below_drew1 | refine below_set ?_ GE101.out) | exact HB.out)⟩
 · replace c3 := Bool.eq_false_iff.mpr c3
  subst c3
  have H1 : (some false) = some r := by rw [if_neg (show ¬ (false = true) by decide)] at H; exact H
  clear H
  have H := H1
  clear H1
  obtain rfl := Option.some.inj H
  go_enter Tryd.func57, Tryd.ntmps57
  go_wp2_with (first | ((with_reducible refine gate_dst (N := 1) rfl ?_); refine box_event ?hg (N := 1) ?hd (cs := #[.string a0_0, .int .i64 a0_1, .int .i64 a0_2, .int .i64 a0_3, .string a0_4]) (t := 50) ?hr ?_; (case hd => rfl); (case hg => rfl); (case hr => first | (go_simp; done) | (go_simp; rfl)); intro gb101 hg w33 hbox hb; have n0_ := Aside0.mk (below_step (by repeat (first | (with_reducible first | exact HB.out | apply below_alloc | apply pw_below_drewN | apply below_drew1) | exact HB.out)) hb); have n1_ := Aside0.mk (hbox); have n2_ := Aside0.mk ((by rw [hg]; exact (below_size (by repeat (first | (with_reducible first | exact HB.out | apply below_alloc | apply pw_below_drewN | apply below_drew1) | exact HB.out))) : w.heap.size ≤ gb101)); have n3_ := Aside0.mk ((by rw [hg]; exact (below_size (by repeat (first | (with_reducible first | exact HB.out | apply below_alloc | apply pw_below_drewN | apply below_drew1) | exact HB.out))) : w.heap.size ≤ gb101)); clear HB; have HB := n0_; have BK101 := n1_; have GW101 := n2_; have GE101 := n3_; clear n0_ n1_ n2_ n3_; clear hb hbox hg; have hcz34_0 : w33.cell? ⟨gb101, 0, none⟩ = some (.string a0_0) := (blk_cell BK101.out 0).trans rfl; have hcz34_1 : w33.cell? ⟨gb101, 1, none⟩ = some (.int .i64 a0_1) := (blk_cell BK101.out 1).trans rfl; have hcz34_2 : w33.cell? ⟨gb101, 2, none⟩ = some (.int .i64 a0_2) := (blk_cell BK101.out 2).trans rfl; have hcz34_3 : w33.cell? ⟨gb101, 3, none⟩ = some (.int .i64 a0_3) := (blk_cell BK101.out 3).trans rfl; have hcz34_4 : w33.cell? ⟨gb101, 4, none⟩ = some (.string a0_4) := (blk_cell BK101.out 4).trans rfl; have hfz34_0 := blk_frozen BK101.out 0; have hfz34_1 := blk_frozen BK101.out 1; have hfz34_2 := blk_frozen BK101.out 2; have hfz34_3 := blk_frozen BK101.out 3; have hfz34_4 := blk_frozen BK101.out 4) | ((with_reducible refine gate_callee (f := 26) rfl ?_); refine goesL_ (some 5) rfl rfl Tryd.func26 (by kernel_rfl) rfl #[.string a0_0] rfl (by (try simp only [List.map_toArray, List.map_cons, List.map_nil]); first | done | rfl | (simp only [List.length_drop, List.length_take]; rfl)) ?_; (with_reducible refine (impl_NameOK.calls k a0_0 false _ A2.out).mono ?_); rintro e w35 ⟨rfl, hb⟩; refine ⟨_, rfl, ?_⟩; have n0_ := Aside0.mk (blk_below (g := gb101) (o := .cells #[.string a0_0, .int .i64 a0_1, .int .i64 a0_2, .int .i64 a0_3, .string a0_4] 50 (0, 0)) (by (with_reducible repeat (first | refine blk_drewN ?_ _ | refine blk_drew ?_ | refine blk_alloc ?_ _)); exact BK101.out) hb); have n1_ := Aside0.mk (below_step (by repeat (first | (with_reducible first | exact HB.out | apply below_alloc | apply pw_below_drewN | apply below_drew1 | refine below_set ?_ GE101.out) | exact HB.out)) hb); clear BK101; clear HB; have BK101 := n0_; have HB := n1_; clear n0_ n1_; (try clear hb); (try clear hb2); (try clear hk); (try clear hi)))
  go_ret
  exact ⟨by first | rfl | (simp [errW_none, errW_some] <;> rfl) | (simp [*, errW_none, errW_some] <;> rfl), by repeat (first | (with_reducible first | exact HB.out | apply below_alloc | apply pw_below_drewN | apply below_drew1 | refine below_set ?_ GE101.out) | exact HB.out)⟩

end Go.Proofs.YtpnbhblmfglkcaaDoor.F
namespace Go.Proofs.YtpnbhblmfglkcaaDoor.F
open Go Go.Shelf Go.RowKit Go.Proofs.YtpnbhblmfglkcaaDoorW.PrintWords Go.Proofs.YtpnbhblmfglkcaaDoorW.PrintLast Go.Proofs.YtpnbhblmfglkcaaDoorW.PrintMore
attribute [local go_sem] max2_int min2_int max_two min_two max_three min_three max_four min_four   -- for this text's walks alone
set_option linter.unusedVariables false
set_option linter.unusedSimpArgs false

/-! ### impl_soundList: function 27 -/
def impl_soundList.l0 : Nat → List (S50) → Int → Int → Option (Bool)
 | 0, _, _, _ => none
 | k + 1, x8, x9, x10 => if x10 < x9 then (if 0 ≤ x10 then (if x10 < (x8.length : Int) then ((impl_recordOk.f k ((rd_T50 x8 x10).f0) ((rd_T50 x8 x10).f1) ((rd_T50 x8 x10).f2) ((rd_T50 x8 x10).f3) ((rd_T50 x8 x10).f4)).bind fun t103 => (if t103 = true then (impl_soundList.l0 k x8 x9 (wrap64 (x10 + 1))) else (some false))) else (none)) else (none)) else (some true)
def impl_soundList.f (k : Nat) (l0 : List (S50)) : Option (Bool) := if (l0.length : Int) > 400 then (some false) else (impl_soundList.l0 k l0 (l0.length : Int) 0)
theorem impl_soundList.mono_l : ∀ k, (∀ y0 y1 y2, LeO (impl_soundList.l0 k y0 y1 y2) (impl_soundList.l0 (k + 1) y0 y1 y2))
 | 0 => fun _ _ _ r h => by simp [impl_soundList.l0] at h
 | k + 1 => by
  have ih0 := impl_soundList.mono_l k
  · intro y0 y1 y2
   unfold impl_soundList.l0
   repeat' first
   | (with_reducible exact ih0 _ _ _)
   | (with_reducible exact impl_recordOk.mono _ _ _ _ _ _)
   | (with_reducible exact LeO.refl _)
   | (with_reducible exact LeO.none _)
   | (with_reducible refine LeO.ite ?_ ?_)
   | (with_reducible refine LeO.bind ?_ (fun _ => ?_))
   | exact ih0 _ _ _
   | exact impl_recordOk.mono _ _ _ _ _ _
   | exact LeO.none _
   | refine LeO.ite ?_ ?_
   | refine LeO.bind ?_ (fun _ => ?_)
theorem impl_soundList.mono : ∀ a0 k, LeO (impl_soundList.f k a0) (impl_soundList.f (k + 1) a0) := by
 intro a0 k
 have ih0 := impl_soundList.mono_l k
 unfold impl_soundList.f
 repeat' first
   | (with_reducible exact ih0 _ _ _)
   | (with_reducible exact impl_recordOk.mono _ _ _ _ _ _)
   | (with_reducible exact LeO.refl _)
   | (with_reducible exact LeO.none _)
   | (with_reducible refine LeO.ite ?_ ?_)
   | (with_reducible refine LeO.bind ?_ (fun _ => ?_))
   | exact ih0 _ _ _
   | exact impl_recordOk.mono _ _ _ _ _ _
   | exact LeO.none _
   | refine LeO.ite ?_ ?_
   | refine LeO.bind ?_ (fun _ => ?_)
set_option maxHeartbeats 8000000 in
set_option maxRecDepth 100000 in
theorem impl_soundList.calls (k : Nat) (A0 : Option Addr) (c0 : Nat) (l0 : List (S50)) (r : Bool) (w : World) (hr0 : Kd.C k50 w A0 l0.length l0) (hc0 : l0.length ≤ c0) (h : impl_soundList.f k l0 = some r) (hG : Glob w) :
  Calls Tryd.prog 27 #[.slice A0 l0.length c0] w fun e w' => e = .returned (.bool r) ∧ Below w.heap.size w w' := by
 have HG := Aside0.mk hG
 clear hG
 have hu50 := Tryd.underlying50
 have HR0 := Aside0.mk hr0
 have HC0 := Aside0.mk hc0
 clear hr0 hc0
 have HB := Aside0.mk (Below.refl w.heap.size w)
 have H : (if (l0.length : Int) > 400 then (some false) else (impl_soundList.l0 k l0 (l0.length : Int) 0)) = some r := h
 clear h
 by_cases c2 : (l0.length : Int) > 400
 · rw [if_pos c2] at H
  have c2b0 : decide (400 < (l0.length : Int)) = true := decide_eq_true c2
  have c2b1 : decide (400 < l0.length) = true := decide_eq_true (by omega)
  clear c2
  obtain rfl := Option.some.inj H
  go_enter Tryd.func27, Tryd.ntmps27
  go_wp2
  go_ret
  exact ⟨by first | rfl | (simp [errW_none, errW_some] <;> rfl) | (simp [*, errW_none, errW_some] <;> rfl), by repeat (first | (with_reducible first | exact HB.out | apply below_alloc | apply pw_below_drewN | apply below_drew1) | exact HB.out)⟩
 · rw [if_neg c2] at H
  have c2b0 : decide (400 < (l0.length : Int)) = false := decide_eq_false c2
  have c2b1 : decide (400 < l0.length) = false := decide_eq_false (by omega)
  clear c2
  have H' := Aside0.mk H
  clear H
  go_enter Tryd.func27, Tryd.ntmps27
  go_wp2
  go_loopg [10] k (fun kq v10 w' => ∃ (x10_1 : Int), v10 = .int .i64 x10_1 ∧ Aside0 (impl_soundList.l0 kq l0 (l0.length : Int) x10_1 = some r) ∧ Aside0 (kq ≤ k) ∧ Aside0 (Below w.heap.size w w'))
  case atStart => exact ⟨(0), (by first | rfl | (simp; done) | (simp [*]; done)), H', ⟨Nat.le_refl _⟩, ⟨by repeat (first | (with_reducible first | exact HB.out | apply below_alloc | apply pw_below_drewN | apply below_drew1) | exact HB.out)⟩⟩
  case round =>
   clear H'
   try clear c2
   try clear c2b0
   try clear c2b1
   try clear p2
   obtain ⟨x10_1, rfl, HA, HK1, HB⟩ := hrel
   cases gk with
   | zero => exact absurd HA.out (by simp [impl_soundList.l0])
   | succ k1 =>
    have H := HA.out
    clear HA
    simp only [impl_soundList.l0] at H
    by_cases c3 : x10_1 < (l0.length : Int)
    · rw [if_pos c3] at H
     have c3b0 : decide (x10_1 < (l0.length : Int)) = true := decide_eq_true c3
     clear c3
     by_cases c4 : 0 ≤ x10_1
     · rw [if_pos c4] at H
      have c4b0 : decide (0 ≤ x10_1) = true := decide_eq_true c4
      clear c4
      by_cases c5 : x10_1 < (l0.length : Int)
      · rw [if_pos c5] at H
       have c5b0 : decide (x10_1 < (l0.length : Int)) = true := decide_eq_true c5
       clear c5
       replace H := Option.bind_eq_some_iff.mp H
       obtain ⟨t103, A60, H⟩ := H
       replace H : (if t103 = true then (impl_soundList.l0 k1 l0 (l0.length : Int) (wrap64 (x10_1 + 1))) else (some false)) = some r := H
       have A6 := Aside0.mk A60
       clear A60
       by_cases c7 : t103 = true
       · subst c7
        have H1 : (impl_soundList.l0 k1 l0 (l0.length : Int) (wrap64 (x10_1 + 1))) = some r := by rw [if_pos rfl] at H; exact H
        clear H
        have H := H1
        clear H1
        have H' := Aside0.mk H
        clear H
        have p101 : 0 ≤ (x10_1 : Int) := of_decide_eq_true (by first | (with_reducible assumption) | assumption)
        have q101 : x10_1 < (l0.length : Int) := of_decide_eq_true (by first | (with_reducible assumption) | assumption)
        obtain ⟨ad101, e101, hx101_0, hx101_1, hx101_2, hx101_3, hx101_4⟩ := at_T50 HR0.out x10_1 p101 q101
        cases e101
        replace hx101_0 := (HB.out.cell (World.block_lt_of_cell? w _ hx101_0)).trans hx101_0
        replace hx101_1 := (HB.out.cell (World.block_lt_of_cell? w _ hx101_1)).trans hx101_1
        replace hx101_2 := (HB.out.cell (World.block_lt_of_cell? w _ hx101_2)).trans hx101_2
        replace hx101_3 := (HB.out.cell (World.block_lt_of_cell? w _ hx101_3)).trans hx101_3
        replace hx101_4 := (HB.out.cell (World.block_lt_of_cell? w _ hx101_4)).trans hx101_4
        replace p101 := eq_true p101
        replace q101 := eq_true q101
        go_wp2_with (first | ((with_reducible refine gate_dst (N := 4) rfl ?_); refine box_event ?hg (N := 4) ?hd (cs := #[.string (⟨#[]⟩ : ByteArray), .int .i64 0, .int .i64 0, .int .i64 0, .string (⟨#[]⟩ : ByteArray)]) (t := 50) ?hr ?_; (case hd => rfl); (case hg => rfl); (case hr => first | (go_simp; done) | (go_simp; rfl)); intro gb102 hg w8 hbox hb; have n0_ := Aside0.mk (below_step (by repeat (first | (with_reducible first | exact HB.out | apply below_alloc | apply pw_below_drewN | apply below_drew1) | exact HB.out)) hb); have n1_ := Aside0.mk (hbox); have n2_ := Aside0.mk ((by rw [hg]; exact (below_size (by repeat (first | (with_reducible first | exact HB.out | apply below_alloc | apply pw_below_drewN | apply below_drew1) | exact HB.out))) : w.heap.size ≤ gb102)); have n3_ := Aside0.mk ((by rw [hg]; exact (below_size (by repeat (first | (with_reducible first | exact HB.out | apply below_alloc | apply pw_below_drewN | apply below_drew1) | exact HB.out))) : w.heap.size ≤ gb102)); clear HB; have HB := n0_; have BK102 := n1_; have GW102 := n2_; have GE102 := n3_; clear n0_ n1_ n2_ n3_; clear hb hbox hg; have hcz9_0 : w8.cell? ⟨gb102, 0, none⟩ = some (.string (⟨#[]⟩ : ByteArray)) := (blk_cell BK102.out 0).trans rfl; have hcz9_1 : w8.cell? ⟨gb102, 1, none⟩ = some (.int .i64 0) := (blk_cell BK102.out 1).trans rfl; have hcz9_2 : w8.cell? ⟨gb102, 2, none⟩ = some (.int .i64 0) := (blk_cell BK102.out 2).trans rfl; have hcz9_3 : w8.cell? ⟨gb102, 3, none⟩ = some (.int .i64 0) := (blk_cell BK102.out 3).trans rfl; have hcz9_4 : w8.cell? ⟨gb102, 4, none⟩ = some (.string (⟨#[]⟩ : ByteArray)) := (blk_cell BK102.out 4).trans rfl; have hfz9_0 := blk_frozen BK102.out 0; have hfz9_1 := blk_frozen BK102.out 1; have hfz9_2 := blk_frozen BK102.out 2; have hfz9_3 := blk_frozen BK102.out 3; have hfz9_4 := blk_frozen BK102.out 4) | ((with_reducible refine gate_callee (f := 57) rfl ?_); refine goesL_ (some 15) rfl rfl Tryd.func57 (by kernel_rfl) rfl #[.agg #[.string ((rd_T50 l0 x10_1).f0), .int .i64 ((rd_T50 l0 x10_1).f1), .int .i64 ((rd_T50 l0 x10_1).f2), .int .i64 ((rd_T50 l0 x10_1).f3), .string ((rd_T50 l0 x10_1).f4)]] rfl (by (try simp only [List.map_toArray, List.map_cons, List.map_nil]); first | done | rfl | (simp only [List.length_drop, List.length_take]; rfl)) ?_; (with_reducible refine (impl_recordOk.calls k1 ((rd_T50 l0 x10_1).f0) ((rd_T50 l0 x10_1).f1) ((rd_T50 l0 x10_1).f2) ((rd_T50 l0 x10_1).f3) ((rd_T50 l0 x10_1).f4) true _ A6.out (HG.out.below (by repeat (first | (with_reducible first | exact HB.out | apply below_alloc | apply pw_below_drewN | apply below_drew1 | refine below_set ?_ GE102.out) | exact HB.out)))).mono ?_); rintro e w10 ⟨rfl, hb⟩; refine ⟨_, rfl, ?_⟩; have n0_ := Aside0.mk (blk_below (g := gb102) (o := .cells #[.string ((rd_T50 l0 x10_1).f0), .int .i64 ((rd_T50 l0 x10_1).f1), .int .i64 ((rd_T50 l0 x10_1).f2), .int .i64 ((rd_T50 l0 x10_1).f3), .string ((rd_T50 l0 x10_1).f4)] 50 (0, 0)) (by (with_reducible repeat (first | refine blk_drewN ?_ _ | refine blk_drew ?_ | refine blk_alloc ?_ _)); refine blk_put (cs := #[.string ((rd_T50 l0 x10_1).f0), .int .i64 ((rd_T50 l0 x10_1).f1), .int .i64 ((rd_T50 l0 x10_1).f2), .int .i64 ((rd_T50 l0 x10_1).f3), .string (⟨#[]⟩ : ByteArray)]) ?_ 4 _ rfl; (with_reducible repeat (first | refine blk_drewN ?_ _ | refine blk_drew ?_ | refine blk_alloc ?_ _)); refine blk_put (cs := #[.string ((rd_T50 l0 x10_1).f0), .int .i64 ((rd_T50 l0 x10_1).f1), .int .i64 ((rd_T50 l0 x10_1).f2), .int .i64 0, .string (⟨#[]⟩ : ByteArray)]) ?_ 3 _ rfl; (with_reducible repeat (first | refine blk_drewN ?_ _ | refine blk_drew ?_ | refine blk_alloc ?_ _)); refine blk_put (cs := #[.string ((rd_T50 l0 x10_1).f0), .int .i64 ((rd_T50 l0 x10_1).f1), .int .i64 0, .int .i64 0, .string (⟨#[]⟩ : ByteArray)]) ?_ 2 _ rfl; (with_reducible repeat (first | refine blk_drewN ?_ _ | refine blk_drew ?_ | refine blk_alloc ?_ _)); refine blk_put (cs := #[.string ((rd_T50 l0 x10_1).f0), .int .i64 0, .int .i64 0, .int .i64 0, .string (⟨#[]⟩ : ByteArray)]) ?_ 1 _ rfl; (with_reducible repeat (first | refine blk_drewN ?_ _ | refine blk_drew ?_ | refine blk_alloc ?_ _)); refine blk_put (cs := #[.string (⟨#[]⟩ : ByteArray), .int .i64 0, .int .i64 0, .int .i64 0, .string (⟨#[]⟩ : ByteArray)]) ?_ 0 _ rfl; (with_reducible repeat (first | refine blk_drewN ?_ _ | refine blk_drew ?_ | refine blk_alloc ?_ _)); exact BK102.out) hb); have n1_ := Aside0.mk (below_step (by repeat (first | (with_reducible first | exact HB.out | apply below_alloc | apply pw_below_drewN | apply below_drew1 | refine below_set ?_ GE102.out) | exact HB.out)) hb); clear BK102; clear HB; have BK102 := n0_; have HB := n1_; clear n0_ n1_; (try clear hb); (try clear hb2); (try clear hk); (try clear hi)))
        go_roundg k1
        case measure => have := HK1.out; omega
        case rel => exact ⟨(wrap64 (x10_1 + 1)), (by first | rfl | (simp; done) | (simp [*]; done)), H', ⟨by have := HK1.out; omega⟩, ⟨by repeat (first | (with_reducible first | exact HB.out | apply below_alloc | apply pw_below_drewN | apply below_drew1 | refine below_set ?_ GE102.out) | exact HB.out)⟩⟩
       · replace c7 := Bool.eq_false_iff.mpr c7
        subst c7
        have H1 : (some false) = some r := by rw [if_neg (show ¬ (false = true) by decide)] at H; exact H
        clear H
        have H := H1
        clear H1
        obtain rfl := Option.some.inj H
        have p101 : 0 ≤ (x10_1 : Int) := of_decide_eq_true (by first | (with_reducible assumption) | assumption)
        have q101 : x10_1 < (l0.length : Int) := of_decide_eq_true (by first | (with_reducible assumption) | assumption)
        obtain ⟨ad101, e101, hx101_0, hx101_1, hx101_2, hx101_3, hx101_4⟩ := at_T50 HR0.out x10_1 p101 q101
        cases e101
        replace hx101_0 := (HB.out.cell (World.block_lt_of_cell? w _ hx101_0)).trans hx101_0
        replace hx101_1 := (HB.out.cell (World.block_lt_of_cell? w _ hx101_1)).trans hx101_1
        replace hx101_2 := (HB.out.cell (World.block_lt_of_cell? w _ hx101_2)).trans hx101_2
        replace hx101_3 := (HB.out.cell (World.block_lt_of_cell? w _ hx101_3)).trans hx101_3
        replace hx101_4 := (HB.out.cell (World.block_lt_of_cell? w _ hx101_4)).trans hx101_4
        replace p101 := eq_true p101
        replace q101 := eq_true q101
        go_wp2_with (first | ((with_reducible refine gate_dst (N := 4) rfl ?_); refine box_event ?hg (N := 4) ?hd (cs := #[.string (⟨#[]⟩ : ByteArray), .int .i64 0, .int .i64 0, .int .i64 0, .string (⟨#[]⟩ : ByteArray)]) (t := 50) ?hr ?_; (case hd => rfl); (case hg => rfl); (case hr => first | (go_simp; done) | (go_simp; rfl)); intro gb102 hg w11 hbox hb; have n0_ := Aside0.mk (below_step (by repeat (first | (with_reducible first | exact HB.out | apply below_alloc | apply pw_below_drewN | apply below_drew1) | exact HB.out)) hb); have n1_ := Aside0.mk (hbox); have n2_ := Aside0.mk ((by rw [hg]; exact (below_size (by repeat (first | (with_reducible first | exact HB.out | apply below_alloc | apply pw_below_drewN | apply below_drew1) | exact HB.out))) : w.heap.size ≤ gb102)); have n3_ := Aside0.mk ((by rw [hg]; exact (below_size (by repeat (first | (with_reducible first | exact HB.out | apply below_alloc | apply pw_below_drewN | apply below_drew1) | exact HB.out))) : w.heap.size ≤ gb102)); clear HB; have HB := n0_; have BK102 := n1_; have GW102 := n2_; have GE102 := n3_; clear n0_ n1_ n2_ n3_; clear hb hbox hg; have hcz12_0 : w11.cell? ⟨gb102, 0, none⟩ = some (.string (⟨#[]⟩ : ByteArray)) := (blk_cell BK102.out 0).trans rfl; have hcz12_1 : w11.cell? ⟨gb102, 1, none⟩ = some (.int .i64 0) := (blk_cell BK102.out 1).trans rfl; have hcz12_2 : w11.cell? ⟨gb102, 2, none⟩ = some (.int .i64 0) := (blk_cell BK102.out 2).trans rfl; have hcz12_3 : w11.cell? ⟨gb102, 3, none⟩ = some (.int .i64 0) := (blk_cell BK102.out 3).trans rfl; have hcz12_4 : w11.cell? ⟨gb102, 4, none⟩ = some (.string (⟨#[]⟩ : ByteArray)) := (blk_cell BK102.out 4).trans rfl; have hfz12_0 := blk_frozen BK102.out 0; have hfz12_1 := blk_frozen BK102.out 1; have hfz12_2 := blk_frozen BK102.out 2; have hfz12_3 := blk_frozen BK102.out 3; have hfz12_4 := blk_frozen BK102.out 4) | ((with_reducible refine gate_callee (f := 57) rfl ?_); refine goesL_ (some 15) rfl rfl Tryd.func57 (by kernel_rfl) rfl #[.agg #[.string ((rd_T50 l0 x10_1).f0), .int .i64 ((rd_T50 l0 x10_1).f1), .int .i64 ((rd_T50 l0 x10_1).f2), .int .i64 ((rd_T50 l0 x10_1).f3), .string ((rd_T50 l0 x10_1).f4)]] rfl (by (try simp only [List.map_toArray, List.map_cons, List.map_nil]); first | done | rfl | (simp only [List.length_drop, List.length_take]; rfl)) ?_; (with_reducible refine (impl_recordOk.calls k1 ((rd_T50 l0 x10_1).f0) ((rd_T50 l0 x10_1).f1) ((rd_T50 l0 x10_1).f2) ((rd_T50 l0 x10_1).f3) ((rd_T50 l0 x10_1).f4) false _ A6.out (HG.out.below (by repeat (first | (with_reducible first | exact HB.out | apply below_alloc | apply pw_below_drewN | apply below_drew1 | refine below_set ?_ GE102.out) | exact HB.out)))).mono ?_); rintro e w13 ⟨rfl, hb⟩; refine ⟨_, rfl, ?_⟩; have n0_ := Aside0.mk (blk_below (g := gb102) (o := .cells #[.string ((rd_T50 l0 x10_1).f0), .int .i64 ((rd_T50 l0 x10_1).f1), .int .i64 ((rd_T50 l0 x10_1).f2), .int .i64 ((rd_T50 l0 x10_1).f3), .string ((rd_T50 l0 x10_1).f4)] 50 (0, 0)) (by (with_reducible repeat (first | refine blk_drewN ?_ _ | refine blk_drew ?_ | refine blk_alloc ?_ _)); refine blk_put (cs := #[.string ((rd_T50 l0 x10_1).f0), .int .i64 ((rd_T50 l0 x10_1).f1), .int .i64 ((rd_T50 l0 x10_1).f2), .int .i64 ((rd_T50 l0 x10_1).f3), .string (⟨#[]⟩ : ByteArray)]) ?_ 4 _ rfl; (with_reducible repeat (first | refine blk_drewN ?_ _ | refine blk_drew ?_ | refine blk_alloc ?_ _)); refine blk_put (cs := #[.string ((rd_T50 l0 x10_1).f0), .int .i64 ((rd_T50 l0 x10_1).f1), .int .i64 ((rd_T50 l0 x10_1).f2), .int .i64 0, .string (⟨#[]⟩ : ByteArray)]) ?_ 3 _ rfl; (with_reducible repeat (first | refine blk_drewN ?_ _ | refine blk_drew ?_ | refine blk_alloc ?_ _)); refine blk_put (cs := #[.string ((rd_T50 l0 x10_1).f0), .int .i64 ((rd_T50 l0 x10_1).f1), .int .i64 0, .int .i64 0, .string (⟨#[]⟩ : ByteArray)]) ?_ 2 _ rfl; (with_reducible repeat (first | refine blk_drewN ?_ _ | refine blk_drew ?_ | refine blk_alloc ?_ _)); refine blk_put (cs := #[.string ((rd_T50 l0 x10_1).f0), .int .i64 0, .int .i64 0, .int .i64 0, .string (⟨#[]⟩ : ByteArray)]) ?_ 1 _ rfl; (with_reducible repeat (first | refine blk_drewN ?_ _ | refine blk_drew ?_ | refine blk_alloc ?_ _)); refine blk_put (cs := #[.string (⟨#[]⟩ : ByteArray), .int .i64 0, .int .i64 0, .int .i64 0, .string (⟨#[]⟩ : ByteArray)]) ?_ 0 _ rfl; (with_reducible repeat (first | refine blk_drewN ?_ _ | refine blk_drew ?_ | refine blk_alloc ?_ _)); exact BK102.out) hb); have n1_ := Aside0.mk (below_step (by repeat (first | (with_reducible first | exact HB.out | apply below_alloc | apply pw_below_drewN | apply below_drew1 | refine below_set ?_ GE102.out) | exact HB.out)) hb); clear BK102; clear HB; have BK102 := n0_; have HB := n1_; clear n0_ n1_; (try clear hb); (try clear hb2); (try clear hk); (try clear hi)))
        go_ret
        exact ⟨by first | rfl | (simp [errW_none, errW_some] <;> rfl) | (simp [*, errW_none, errW_some] <;> rfl), by repeat (first | (with_reducible first | exact HB.out | apply below_alloc | apply pw_below_drewN | apply below_drew1 | refine below_set ?_ GE102.out) | exact HB.out)⟩
      · rw [if_neg c5] at H
       exact absurd H (by simp)
     · rw [if_neg c4] at H
      exact absurd H (by simp)
    · rw [if_neg c3] at H
     have c3b0 : decide (x10_1 < (l0.length : Int)) = false := decide_eq_false c3
     clear c3
     obtain rfl := Option.some.inj H
     go_wp2
     go_ret
     exact ⟨by first | rfl | (simp [errW_none, errW_some] <;> rfl) | (simp [*, errW_none, errW_some] <;> rfl), by repeat (first | (with_reducible first | exact HB.out | apply below_alloc | apply pw_below_drewN | apply below_drew1) | exact HB.out)⟩

end Go.Proofs.YtpnbhblmfglkcaaDoor.F
namespace Go.Proofs.YtpnbhblmfglkcaaDoor.F
open Go Go.Shelf Go.RowKit Go.Proofs.YtpnbhblmfglkcaaDoorW.PrintWords Go.Proofs.YtpnbhblmfglkcaaDoorW.PrintLast Go.Proofs.YtpnbhblmfglkcaaDoorW.PrintMore
attribute [local go_sem] max2_int min2_int max_two min_two max_three min_three max_four min_four   -- for this text's walks alone
set_option linter.unusedVariables false
set_option linter.unusedSimpArgs false

/-! ### stands 0 -/
section
open Go.Lib (BuilderAt IsBuilder)
theorem bld_cellsB : (Tryd.prog.info? 124).map (fun i => i.size) = some 2 := by kernel_rfl
theorem bld_infoByte : (Tryd.prog.info? 5).map (fun i => (i.zero, i.size, i.bytes)) = some (some (.int .u8 0), 1, 1) := by kernel_rfl
theorem bld_ne : (124 : Nat) ≠ 5 := by decide
set_option maxHeartbeats 1000000 in
set_option maxRecDepth 100000 in
theorem bld_copyCheck_used (b : Nat) (w : World) (h0 : w.cell? ⟨b, 0, none⟩ = some (.pointer (some ⟨b, 0, none⟩))) :
  Calls Tryd.prog 107 #[.pointer (some ⟨b, 0, none⟩)] w fun e w' => e = .returned (.tuple #[]) ∧ w' = w := by
 obtain ⟨j, hj, _⟩ := Option.map_eq_some_iff.1 bld_cellsB
 go_enter Tryd.func107, Tryd.ntmps107
 go_wp2
 rw [Lib.run_neq_ptr_same w _ Tryd.underlying122 hj]
 go_wp2
 go_end0
 exact ⟨rfl, rfl⟩
set_option maxHeartbeats 1000000 in
set_option maxRecDepth 100000 in
theorem bld_copyCheck_fresh (b : Nat) (w : World) (h0 : w.cell? ⟨b, 0, none⟩ = some (.pointer none)) (hsh : w.shape? b = some (124, 2)) (hfz : w.frozen? ⟨b, 0, none⟩ = false) :
  Calls Tryd.prog 107 #[.pointer (some ⟨b, 0, none⟩)] w fun e w' => e = .returned (.tuple #[]) ∧ w' = w.setCell ⟨b, 0, none⟩ (.pointer (some ⟨b, 0, none⟩)) := by
 obtain ⟨j, hj, hjs⟩ := Option.map_eq_some_iff.1 bld_cellsB
 go_enter Tryd.func107, Tryd.ntmps107
 go_wp2
 rw [Lib.run_to_unsafe w ⟨b, 0, none⟩ Tryd.underlying122 Tryd.underlying157 hj (by rw [hjs]; decide) hsh (Nat.zero_lt_succ 1)]
 simp only [Result.andThen]
 rw [Oper.upon_value]
 go_wp2
 rw [run_callFunc_extern Tryd.func115 (by kernel_rfl) (by kernel_rfl) (by kernel_rfl) (e := Extern.AbiNoEscape.same) (by kernel_rfl)]
 rw [Lib.run_noEscape]
 simp only [Result.andThen]
 rw [Oper.upon_value]
 go_wp2
 rw [Lib.run_from_unsafe w ⟨b, 0, none⟩ Tryd.underlying157 Tryd.underlying122 hj hsh (by kernel_rfl)]
 simp only [Result.andThen]
 rw [Oper.upon_value]
 go_wp2
 go_end0
 exact ⟨rfl, rfl⟩
theorem bld_copyCheck (B b : Nat) (bs : List Value) (w : World) (h : IsBuilder 124 5 B b bs w) :
  Calls Tryd.prog 107 #[.pointer (some ⟨b, 0, none⟩)] w fun e w' => e = .returned (.tuple #[]) ∧ (BuilderAt 124 5 B b (.pointer (some ⟨b, 0, none⟩)) bs w' ∧ Below B w w') := by
 rcases h with h | h
 · refine (bld_copyCheck_fresh b w h.cell0 h.shape h.frozen0).mono ?_
  rintro e w' ⟨rfl, rfl⟩
  exact ⟨rfl, h.used _, (Below.refl B w).setCell (p := ⟨b, 0, none⟩) h.1 _⟩
 · refine (bld_copyCheck_used b w h.cell0).mono ?_
  rintro e w' ⟨rfl, rfl⟩
  exact ⟨rfl, h, Below.refl B _⟩
set_option maxHeartbeats 2000000 in
set_option maxRecDepth 100000 in
theorem bld_WriteByte (B b : Nat) (bs : List Value) (c : Int) (w : World) (h : IsBuilder 124 5 B b bs w) (hlen : bs.length + 1 ≤ 140737488355328) (hBw : B ≤ w.heap.size) :
  Calls Tryd.prog 82 #[.pointer (some ⟨b, 0, none⟩), .int .u8 c] w fun e w' => e = .returned .nilIface ∧ (BuilderAt 124 5 B b (.pointer (some ⟨b, 0, none⟩)) (bs ++ [.int .u8 c]) w' ∧ Below B w w') := by
 obtain ⟨i0, hi, hz0, hz1, hz2⟩ := info_parts bld_infoByte
 go_enter Tryd.func82, Tryd.ntmps82
 go_wp2_with (go_at_call 107; refine (bld_copyCheck B b bs _ h).mono ?_)
 rintro e w1 ⟨rfl, h1, hb1⟩
 obtain ⟨hB, v, hbk, hown, hne⟩ := h1
 have c0 : w1.cell? ⟨b, 0, none⟩ = some (.pointer (some ⟨b, 0, none⟩)) := by rw [Lib.cell_of_heap hbk]; rfl
 have c1 : w1.cell? ⟨b, 1, none⟩ = some v := by rw [Lib.cell_of_heap hbk]; rfl
 go_wp2_with (at_builtin; refine wpList_append_own _ rfl _ _ 88 rfl B 5 i0 (.int .u8 0) 1 1 Tryd.underlying88 hi hz0 hz1 hz2 rfl (by decide) _ _ _ rfl (hown.alloc _) ⟨w1.heap.size, 0, none⟩ 1 1 [.int .u8 c] rfl rfl ?c1 ?c2 ?c3 ?c4 ?c5 ?_)
 case c1 =>
  intro j u hj
  match j, hj with
  | 0, hj => simp at hj; subst hj; simp [Addr.add]
 case c2 => intro u hu; simp at hu; subst hu; rfl
 case c3 => unfold maxLen; omega
 case c4 => omega
 case c5 => have := hb1.size; simp; omega
 intro v' w2 hown' hgrow _
 have hlt : b < w1.heap.size := by
  rcases Nat.lt_or_ge b w1.heap.size with h' | h'
  · exact h'
  · simp [Array.getElem?_eq_none h'] at hbk
 have hb2 : w2.heap[b]? = some (.cells #[.pointer (some ⟨b, 0, none⟩), v] 124 (0, 0)) := by
  rw [hgrow.block b (by simp; omega) (fun e => hne e.symm), Lib.alloc_old w1 _ b hlt]
  exact hbk
 have d0 : w2.cell? ⟨b, 0, none⟩ = some (.pointer (some ⟨b, 0, none⟩)) := by rw [Lib.cell_of_heap hb2]; rfl
 have d1 : w2.cell? ⟨b, 1, none⟩ = some v := by rw [Lib.cell_of_heap hb2]; rfl
 have f1 : w2.frozen? ⟨b, 1, none⟩ = false := Lib.frozen_of_heap hb2 1
 obtain ⟨g, cap, rfl⟩ : ∃ g cap, v' = .slice (some ⟨g, 0, none⟩) (bs.length + 1) cap := by
  rcases hown'.2 with ⟨_, h0⟩ | ⟨g, cap, cur, hv, _⟩
  · omega
  · exact ⟨g, cap, hv⟩
 go_wp2
 go_ret
 refine ⟨rfl, ?_, ?_⟩
 · exact Lib.BuilderAt.put (T := 124) (e := 5) hB hb2 (bs' := bs ++ [.int .u8 c]) (by simpa using hown') bld_ne
 · exact ((hb1.alloc (by have := hb1.size; omega) _).grown hgrow (by have := hb1.size; simp; omega) (fun k hk => (hown.lt k hk).1)).setCell (p := ⟨b, 1, none⟩) hB _
set_option maxHeartbeats 2000000 in
set_option maxRecDepth 100000 in
theorem bld_WriteString (B b : Nat) (bs : List Value) (s : ByteArray) (w : World) (h : IsBuilder 124 5 B b bs w) (hlen : bs.length + s.size ≤ 140737488355328) (hBw : B ≤ w.heap.size) :
  Calls Tryd.prog 83 #[.pointer (some ⟨b, 0, none⟩), .string s] w fun e w' => e = .returned (.tuple #[.int .i64 s.size, .nilIface]) ∧ (BuilderAt 124 5 B b (.pointer (some ⟨b, 0, none⟩)) (bs ++ Lib.strCells s) w' ∧ Below B w w') := by
 obtain ⟨i0, hi, hz0, hz1, hz2⟩ := info_parts bld_infoByte
 go_enter Tryd.func83, Tryd.ntmps83
 go_wp2_with (go_at_call 107; refine (bld_copyCheck B b bs _ h).mono ?_)
 rintro e w1 ⟨rfl, h1, hb1⟩
 obtain ⟨hB, v, hbk, hown, hne⟩ := h1
 have c0 : w1.cell? ⟨b, 0, none⟩ = some (.pointer (some ⟨b, 0, none⟩)) := by rw [Lib.cell_of_heap hbk]; rfl
 have c1 : w1.cell? ⟨b, 1, none⟩ = some v := by rw [Lib.cell_of_heap hbk]; rfl
 go_wp2_with (at_builtin; refine Lib.wpList_append_own_string _ rfl _ _ 88 9 rfl B 5 i0 Tryd.underlying88 Tryd.underlying9 hi hz0 hz1 hz2 _ _ _ rfl hown s rfl ?c3 ?c4 ?c5 ?_)
 case c3 => unfold maxLen; omega
 case c4 => omega
 case c5 => have := hb1.size; omega
 intro v' w2 hown' hgrow _
 have hlt : b < w1.heap.size := by
  rcases Nat.lt_or_ge b w1.heap.size with h' | h'
  · exact h'
  · simp [Array.getElem?_eq_none h'] at hbk
 have hb2 : w2.heap[b]? = some (.cells #[.pointer (some ⟨b, 0, none⟩), v] 124 (0, 0)) := by
  rw [hgrow.block b hlt (fun e => hne e.symm)]
  exact hbk
 have d0 : w2.cell? ⟨b, 0, none⟩ = some (.pointer (some ⟨b, 0, none⟩)) := by rw [Lib.cell_of_heap hb2]; rfl
 have d1 : w2.cell? ⟨b, 1, none⟩ = some v := by rw [Lib.cell_of_heap hb2]; rfl
 have f1 : w2.frozen? ⟨b, 1, none⟩ = false := Lib.frozen_of_heap hb2 1
 obtain ⟨ao, n', cap, rfl⟩ : ∃ ao n' cap, v' = .slice ao n' cap := by
  rcases hown'.2 with ⟨hv, _⟩ | ⟨g, cap, cur, hv, _⟩
  · exact ⟨_, _, _, hv⟩
  · exact ⟨_, _, _, hv⟩
 go_wp2
 go_ret2
 refine ⟨rfl, ?_, ?_⟩
 · exact Lib.BuilderAt.put (T := 124) (e := 5) hB hb2 (bs' := bs ++ Lib.strCells s) (by simpa [Lib.strCells_length] using hown') bld_ne
 · exact (hb1.grown hgrow (by have := hb1.size; omega) (fun k hk => (hown.lt k hk).1)).setCell (p := ⟨b, 1, none⟩) hB _
end
def bld_ren : Go.Shelf.Ren := ⟨fun | 169 => 84 | n => n, fun | 70 => 122 | 9 => 9 | 0 => 0 | 72 => 124 | 37 => 88 | 127 => 146 | 3 => 3 | 5 => 5 | n => n, fun | n => n⟩
theorem bld_lays : Go.Proofs.Lays.n169 Tryd.prog bld_ren := {
 mixed := by kernel_rfl
 f169 := Tryd.func84.trans (congrArg some (by kernel_rfl))
 t0 := Tryd.underlying0
 a0 := Tryd.isAgg0
 z0 := Tryd.sizeOf0
 v0 := Tryd.zeroValue0
 t3 := Tryd.underlying3
 a3 := Tryd.isAgg3
 z3 := Tryd.sizeOf3
 v3 := Tryd.zeroValue3
 t9 := Tryd.underlying9
 a9 := Tryd.isAgg9
 z9 := Tryd.sizeOf9
 v9 := Tryd.zeroValue9
 t37 := Tryd.underlying88
 a37 := Tryd.isAgg88
 z37 := Tryd.sizeOf88
 v37 := Tryd.zeroValue88
 t70 := Tryd.underlying122
 a70 := Tryd.isAgg122
 z70 := Tryd.sizeOf122
 v70 := Tryd.zeroValue122
 t72 := Tryd.underlying124
 a72 := Tryd.isAgg124
 z72 := Tryd.sizeOf124
 v72 := Tryd.zeroValue124
 t127 := Tryd.underlying146
 a127 := Tryd.isAgg146
 z127 := Tryd.sizeOf146
 v127 := Tryd.zeroValue146 }
theorem bld_extra : Builder.Extra Tryd.prog bld_ren := {
 sizeBuilder := by kernel_rfl
 liesBuilder := by kernel_rfl
 t5 := Tryd.underlying5
 a5 := Tryd.isAgg5
 z5 := Tryd.sizeOf5
 v5 := Tryd.zeroValue5
 infoByte := by kernel_rfl
 cellsByte := by kernel_rfl
 sizeByte := by kernel_rfl
 neB5 := by decide }
theorem bld_String (B b : Nat) (l : List UInt8) (w : World) (h : Lib.IsBuilder 124 5 B b (Lib.byteCells l) w) (hBw : B ≤ w.heap.size) :
  Calls Tryd.prog 84 #[.pointer (some ⟨b, 0, none⟩)] w fun e w' => e = .returned (.string ⟨l.toArray⟩) ∧ Below B w w' := Any.Builder_String_any bld_lays bld_extra B b l w h hBw

end Go.Proofs.YtpnbhblmfglkcaaDoor.F
namespace Go.Proofs.YtpnbhblmfglkcaaDoor.F
open Go Go.Shelf Go.RowKit Go.Proofs.YtpnbhblmfglkcaaDoorW.PrintWords Go.Proofs.YtpnbhblmfglkcaaDoorW.PrintLast Go.Proofs.YtpnbhblmfglkcaaDoorW.PrintMore
attribute [local go_sem] max2_int min2_int max_two min_two max_three min_three max_four min_four   -- for this text's walks alone
set_option linter.unusedVariables false
set_option linter.unusedSimpArgs false

/-! ### impl_joined: function 50 -/
def joinB (l : List ByteArray) : List UInt8 := l.flatMap fun s => UInt8.ofNat s.size :: s.data.toList
def impl_joined.f (l0 : List ByteArray) : Option (ByteArray) := if (joinB l0).length + 1 ≤ 140737488355328 ∧ l0.length ≤ 140737488355328 then some ⟨(joinB l0 ++ [0]).toArray⟩ else none
theorem joinB_succ (l : List ByteArray) (k : Nat) (hk : k < l.length) : joinB (l.take (k + 1)) = joinB (l.take k) ++ (UInt8.ofNat (l[k]).size :: (l[k]).data.toList) := by
 simp only [joinB]
 rw [List.take_succ_eq_append_getElem hk, List.flatMap_append, List.flatMap_cons, List.flatMap_nil, List.append_nil]
theorem joinB_le (l : List ByteArray) (k : Nat) : (joinB (l.take k)).length ≤ (joinB l).length := by
 have h : joinB l = joinB (l.take k) ++ joinB (l.drop k) := by
  simp only [joinB]
  rw [← List.flatMap_append, List.take_append_drop]
 rw [h, List.length_append]
 omega
theorem byteCells_len (l : List UInt8) : (Lib.byteCells l).length = l.length := by simp [Lib.byteCells]
theorem byteCells_app (a b : List UInt8) : Lib.byteCells (a ++ b) = Lib.byteCells a ++ Lib.byteCells b := by simp [Lib.byteCells]
theorem byteCells_one (n : Nat) : Lib.byteCells [UInt8.ofNat n] = [Value.int .u8 ((n : Int) % 256)] := by simp [Lib.byteCells]
theorem byteCells_str (s : ByteArray) : Lib.byteCells s.data.toList = Lib.strCells s := by simp [Lib.byteCells, Lib.strCells]
set_option maxHeartbeats 1000000 in
set_option maxRecDepth 100000 in
theorem impl_joined.calls (A0 : Option Addr) (c0 : Nat) (l0 : List ByteArray) (r : ByteArray) (w : World) (hr0 : Kd.C Kd.string w A0 l0.length l0) (hc0 : l0.length ≤ c0) (h : impl_joined.f l0 = some r) :
  Calls Tryd.prog 50 #[.slice A0 l0.length c0] w fun e w' => e = .returned (.string r) ∧ Below w.heap.size w w' := by
 unfold impl_joined.f at h
 split at h
 case isFalse => cases h
 case isTrue hs =>
 obtain ⟨hs, hs2⟩ := hs
 obtain rfl := Option.some.inj h
 have HR := Aside0.mk hr0
 clear hr0
 go_enter Tryd.func50, Tryd.ntmps50
 go_wp2
 go_loopw [8] (fun i wr => ∃ k : Nat, k ≤ l0.length ∧ i = .int .i64 k ∧ Aside0 (Lib.IsBuilder 124 5 w.heap.size w.heap.size (Lib.byteCells (joinB (l0.take k))) wr) ∧ Aside0 (Below w.heap.size w wr)) (fun i _ => l0.length - (intOf i).toNat)
 case atStart => exact ⟨0, Nat.zero_le _, rfl, ⟨Lib.fresh_isBuilder _ _ w⟩, ⟨(Below.refl _ _).alloc (Nat.le_refl _) _⟩⟩
 case round =>
  obtain ⟨k, hk, rfl, HI, HB⟩ := hrel
  by_cases hlt : k < l0.length
  · obtain ⟨ad, e0, hx⟩ := Kd.at_string HR.out (k : Int) (by omega) (by omega)
   cases e0
   replace hx := (HB.out.cell (World.block_lt_of_cell? w _ hx)).trans hx
   have hlt2 : decide ((k : Int) < (l0.length : Int)) = true := decide_eq_true (by omega)
   have hel : rdOf ByteArray.empty l0 (k : Int) = l0[k] := by simp [rdOf, List.getD_eq_getElem?_getD, hlt]
   rw [hel] at hx
   simp only [Int.toNat_natCast] at hx
   have HS := Aside0.mk (joinB_succ l0 k hlt)
   have hle1 := joinB_le l0 (k + 1)
   rw [HS.out] at hle1
   simp only [List.length_append, List.length_cons, Array.length_toList] at hle1
   have hsz : (l0[k]).data.size = (l0[k]).size := rfl
   rw [hsz] at hle1
   clear hel hsz
   have hsw := HB.out.size
   generalize l0[k] = s at *
   go_wp2_with fail
   refine (bld_WriteByte _ _ _ _ _ HI.out (by rw [byteCells_len]; omega) hsw).mono ?_
   rintro e w1 ⟨rfl, h1, hb1⟩
   have HI1 := Aside0.mk h1
   have HB1 := Aside0.mk hb1
   clear h1 hb1
   have hsw1 := HB1.out.size
   go_wp2_with fail
   refine (bld_WriteString _ _ _ s _ (.inr HI1.out) (by simp only [List.length_append, byteCells_len, List.length_cons, List.length_nil]; omega) (by omega)).mono ?_
   rintro e w2 ⟨rfl, h2, hb2⟩
   have HI2 := Aside0.mk h2
   have HB2 := Aside0.mk hb2
   clear h2 hb2
   go_wp2
   go_roundw
   case rel => exact ⟨k + 1, by omega, by go_num, ⟨by rw [HS.out, byteCells_app, show (UInt8.ofNat s.size :: s.data.toList) = [UInt8.ofNat s.size] ++ s.data.toList from rfl, byteCells_app, byteCells_one, byteCells_str, ← List.append_assoc]; exact .inr HI2.out⟩, ⟨(HB.out.trans HB1.out).trans HB2.out⟩⟩
   case measure => simp [intOf]; omega
  · obtain rfl : k = l0.length := by omega
   have HI2 := HI.out
   rw [List.take_length] at HI2
   have HI3 := Aside0.mk HI2
   clear HI2
   have hlt2 : decide ((l0.length : Int) < (l0.length : Int)) = false := decide_eq_false (by omega)
   have hsw := HB.out.size
   go_wp2_with fail
   refine (bld_WriteByte _ _ _ _ _ HI3.out (by rw [byteCells_len]; omega) hsw).mono ?_
   rintro e w1 ⟨rfl, h1, hb1⟩
   have HI1 := Aside0.mk h1
   have HB1 := Aside0.mk hb1
   clear h1 hb1
   have hsw1 := HB1.out.size
   go_wp2_with fail
   refine (bld_String w.heap.size _ (joinB l0 ++ [0]) _ (.inr (by rw [byteCells_app]; exact HI1.out)) (by omega)).mono ?_
   rintro e w2 ⟨rfl, hb2⟩
   have HB2 := Aside0.mk hb2
   clear hb2
   go_wp2
   go_ret
   exact ⟨rfl, (HB.out.trans HB1.out).trans HB2.out⟩

end Go.Proofs.YtpnbhblmfglkcaaDoor.F
namespace Go.Proofs.YtpnbhblmfglkcaaDoor.F
open Go Go.Shelf Go.RowKit Go.Proofs.YtpnbhblmfglkcaaDoorW.PrintWords Go.Proofs.YtpnbhblmfglkcaaDoorW.PrintLast Go.Proofs.YtpnbhblmfglkcaaDoorW.PrintMore
attribute [local go_sem] max2_int min2_int max_two min_two max_three min_three max_four min_four   -- for this text's walks alone
set_option linter.unusedVariables false
set_option linter.unusedSimpArgs false

/-! ### impl_fold: function 69 -/
def low8 (x : Int) : Int := if 65 ≤ x ∧ x ≤ 90 then x + 32 else x
def impl_fold.f (a0 : ByteArray) : Option (ByteArray) := if a0.size ≤ 140737488355328 then some (strOfNums ((bytesOf a0).map low8)) else none
theorem impl_fold.step (s : ByteArray) (k : Nat) (hk : k < s.size) (v : Int) (hv : v = low8 (bt s (k : Int))) : (((bytesOf s).map low8).take k ++ (bytesOf s).drop k).set k v = ((bytesOf s).map low8).take (k + 1) ++ (bytesOf s).drop (k + 1) := by
 have hl := bytesOf_length s
 have hb : (bytesOf s)[k]'(by omega) = bt s (k : Int) := by
  rw [← rd_bytesOf]
  simp [rd, List.getD_eq_getElem?_getD, hl, hk]
 rw [List.set_append_right _ _ (by simp; omega), List.length_take, List.length_map, hl, Nat.min_eq_left (by omega), Nat.sub_self, List.drop_eq_getElem_cons (by omega), List.set_cons_zero, List.take_succ_eq_append_getElem (by simp; omega), List.append_assoc]
 simp [hb, hv]
theorem impl_fold.same (s : ByteArray) (k : Nat) (hk : k < s.size) (hv : low8 (bt s (k : Int)) = bt s (k : Int)) : ((bytesOf s).map low8).take k ++ (bytesOf s).drop k = ((bytesOf s).map low8).take (k + 1) ++ (bytesOf s).drop (k + 1) := by
 have hl := bytesOf_length s
 have hb : (bytesOf s)[k]'(by omega) = bt s (k : Int) := by
  rw [← rd_bytesOf]
  simp [rd, List.getD_eq_getElem?_getD, hl, hk]
 rw [List.drop_eq_getElem_cons (by omega), List.take_succ_eq_append_getElem (by simp; omega), List.append_assoc]
 simp [hb, hv]
theorem impl_fold.at_ (s : ByteArray) (k : Nat) (hk : k < s.size) : (((bytesOf s).map low8).take k ++ (bytesOf s).drop k).getD k 0 = bt s (k : Int) := by
 have hl := bytesOf_length s
 rw [← rd_bytesOf]
 simp [rd, List.getD_eq_getElem?_getD, List.getElem?_append_right, hl, hk, Nat.min_eq_left (Nat.le_of_lt hk)]
set_option maxHeartbeats 1000000 in
set_option maxRecDepth 100000 in
theorem impl_fold.calls (a0 : ByteArray) (r : ByteArray) (w : World) (h : impl_fold.f a0 = some r) :
  Calls Tryd.prog 69 #[.string a0] w fun e w' => e = .returned (.string r) ∧ Below w.heap.size w w' := by
 unfold impl_fold.f at h
 split at h
 case isFalse => cases h
 case isTrue hs =>
 obtain rfl := Option.some.inj h
 have hcv := fun W => Lib.run_convert_string_bytes (P := Tryd.prog) W 9 88 5 a0 Tryd.underlying9 Tryd.underlying88 Tryd.underlying5
 have hl := bytesOf_length a0
 go_enter Tryd.func69, Tryd.ntmps69
 go_wp2
 go_loopw [10] (fun i wr => ∃ k : Nat, k ≤ a0.size ∧ i = .int .i64 k ∧ Aside0 (Go.Proofs.YtpnbhblmfglkcaaDoorW.XConv.Row8 wr w.heap.size 5 (((bytesOf a0).map low8).take k ++ (bytesOf a0).drop k)) ∧ Aside0 (Below w.heap.size w wr)) (fun i _ => a0.size - (intOf i).toNat)
 case atStart => exact ⟨0, Nat.zero_le _, rfl, ⟨by simpa using Go.Proofs.YtpnbhblmfglkcaaDoorW.XConv.Row8.conv w 5 a0⟩, ⟨bytes_below (Below.refl _ _) (Nat.le_refl _) _ _⟩⟩
 case round =>
  obtain ⟨k, hk, rfl, HR, HB⟩ := hrel
  by_cases hlt : k < a0.size
  · have hlen : (((bytesOf a0).map low8).take k ++ (bytesOf a0).drop k).length = a0.size := by simp [hl]; omega
   have hcell := HR.out.cell k (by omega)
   rw [impl_fold.at_ a0 k hlt] at hcell
   have hfr := HR.out.frozen k (by omega)
   have Hlen := Aside0.mk hlen
   clear hlen hl
   have hbr := bt_range a0 (k : Int)
   have hlt2 : decide ((k : Int) < (a0.size : Int)) = true := decide_eq_true (by omega)
   have hblt : w.heap.size < (_ : World).heap.size := HR.out.lt
   generalize hc : bt a0 (k : Int) = c at *
   have Hc := Aside0.mk hc
   clear hc
   by_cases h1 : 65 ≤ c
   · by_cases h2 : c ≤ 90
    · go_wp2
     go_roundw
     case rel => exact ⟨k + 1, by omega, by go_num, ⟨by rw [← impl_fold.step a0 k hlt (c + 32) (by rw [Hc.out]; unfold low8; rw [if_pos ⟨h1, h2⟩])]; exact HR.out.set k (c + 32)⟩, ⟨HB.out.setCell (Nat.le_refl _) _⟩⟩
     case measure => simp [intOf]; omega
    · go_wp2
     go_roundw
     case rel => exact ⟨k + 1, by omega, by go_num, ⟨by rw [← impl_fold.same a0 k hlt (by rw [Hc.out]; unfold low8; rw [if_neg (by omega)])]; exact HR.out⟩, HB⟩
     case measure => simp [intOf]; omega
   · go_wp2
    go_roundw
    case rel => exact ⟨k + 1, by omega, by go_num, ⟨by rw [← impl_fold.same a0 k hlt (by rw [Hc.out]; unfold low8; rw [if_neg (by omega)])]; exact HR.out⟩, HB⟩
    case measure => simp [intOf]; omega
  · obtain rfl : k = a0.size := by omega
   have hR := HR.out
   rw [List.take_of_length_le (by simp [hl]), List.drop_of_length_le (by omega), List.append_nil] at hR
   have hcv2 := fun c => string_of_reads (P := Tryd.prog) (c := c) Tryd.underlying88 Tryd.underlying5 Tryd.underlying9 (hR.reads (n := a0.size) (by simp [hl]; omega) (by simp [hl]))
   have hlt2 : decide ((a0.size : Int) < (a0.size : Int)) = false := decide_eq_false (by omega)
   clear hl
   go_wp2
   go_ret
   exact ⟨rfl, HB.out⟩

end Go.Proofs.YtpnbhblmfglkcaaDoor.F
namespace Go.Proofs.YtpnbhblmfglkcaaDoor.F
open Go Go.Shelf Go.RowKit Go.Proofs.YtpnbhblmfglkcaaDoorW.PrintWords Go.Proofs.YtpnbhblmfglkcaaDoorW.PrintLast Go.Proofs.YtpnbhblmfglkcaaDoorW.PrintMore
attribute [local go_sem] max2_int min2_int max_two min_two max_three min_three max_four min_four   -- for this text's walks alone
set_option linter.unusedVariables false
set_option linter.unusedSimpArgs false

/-! ### impl_IsUnder: function 28 -/
def impl_IsUnder.j0 : Nat → ByteArray → List ByteArray → List ByteArray → Bool → Option (Bool)
 | 0, _, _, _, _ => none
 | k + 1, x1, x5, x7, x31 => if x31 = true then (some false) else (if 0 ≤ (wrap64 ((x5.length : Int) - (x7.length : Int))) then (if (wrap64 ((x5.length : Int) - (x7.length : Int))) ≤ (x5.length : Int) then ((impl_joined.f (x5.drop ((wrap64 ((x5.length : Int) - (x7.length : Int))) : Int).toNat)).bind fun t113 => ((impl_fold.f t113).bind fun t114 => ((impl_fold.f x1).bind fun t115 => (some (t114.toList == t115.toList))))) else (none)) else (none))
def impl_IsUnder.f (k : Nat) (a0 : ByteArray) (a1 : ByteArray) : Option (Bool) := (impl_labelsOf.f k a0).bind fun bt101 => ((impl_labelsOf.f k a1).bind fun bt105 => (if bt101.2 = true then (if bt105.2 = true then (impl_IsUnder.j0 k a1 bt101.1 bt105.1 (decide ((bt101.1.length : Int) < (bt105.1.length : Int)))) else (impl_IsUnder.j0 k a1 bt101.1 bt105.1 true)) else (impl_IsUnder.j0 k a1 bt101.1 bt105.1 true)))
theorem impl_IsUnder.mono_l : ∀ k, (∀ y0 y1 y2 y3, LeO (impl_IsUnder.j0 k y0 y1 y2 y3) (impl_IsUnder.j0 (k + 1) y0 y1 y2 y3))
 | 0 => fun _ _ _ _ r h => by simp [impl_IsUnder.j0] at h
 | k + 1 => by
  have ih0 := impl_IsUnder.mono_l k
  · intro y0 y1 y2 y3
   unfold impl_IsUnder.j0
   repeat' first
   | (with_reducible exact ih0 _ _ _ _)
   | (with_reducible exact impl_labelsOf.mono _ _)
   | (with_reducible exact LeO.refl _)
   | (with_reducible exact LeO.none _)
   | (with_reducible refine LeO.ite ?_ ?_)
   | (with_reducible refine LeO.bind ?_ (fun _ => ?_))
   | exact ih0 _ _ _ _
   | exact impl_labelsOf.mono _ _
   | exact LeO.none _
   | refine LeO.ite ?_ ?_
   | refine LeO.bind ?_ (fun _ => ?_)
theorem impl_IsUnder.mono : ∀ a0 a1 k, LeO (impl_IsUnder.f k a0 a1) (impl_IsUnder.f (k + 1) a0 a1) := by
 intro a0 a1 k
 have ih0 := impl_IsUnder.mono_l k
 unfold impl_IsUnder.f
 repeat' first
   | (with_reducible exact ih0 _ _ _ _)
   | (with_reducible exact impl_labelsOf.mono _ _)
   | (with_reducible exact LeO.refl _)
   | (with_reducible exact LeO.none _)
   | (with_reducible refine LeO.ite ?_ ?_)
   | (with_reducible refine LeO.bind ?_ (fun _ => ?_))
   | exact ih0 _ _ _ _
   | exact impl_labelsOf.mono _ _
   | exact LeO.none _
   | refine LeO.ite ?_ ?_
   | refine LeO.bind ?_ (fun _ => ?_)
set_option maxHeartbeats 8000000 in
set_option maxRecDepth 100000 in
theorem impl_IsUnder.calls (k : Nat) (a0 : ByteArray) (a1 : ByteArray) (r : Bool) (w : World) (h : impl_IsUnder.f k a0 a1 = some r) :
  Calls Tryd.prog 28 #[.string a0, .string a1] w fun e w' => e = .returned (.bool r) ∧ Below w.heap.size w w' := by
 have HB := Aside0.mk (Below.refl w.heap.size w)
 have H : ((impl_labelsOf.f k a0).bind fun bt101 => ((impl_labelsOf.f k a1).bind fun bt105 => (if bt101.2 = true then (if bt105.2 = true then (impl_IsUnder.j0 k a1 bt101.1 bt105.1 (decide ((bt101.1.length : Int) < (bt105.1.length : Int)))) else (impl_IsUnder.j0 k a1 bt101.1 bt105.1 true)) else (impl_IsUnder.j0 k a1 bt101.1 bt105.1 true)))) = some r := h
 clear h
 replace H := Option.bind_eq_some_iff.mp H
 obtain ⟨⟨t101, t102⟩, A30, H⟩ := H
 replace H : ((impl_labelsOf.f k a1).bind fun bt105 => (if t102 = true then (if bt105.2 = true then (impl_IsUnder.j0 k a1 t101 bt105.1 (decide ((t101.length : Int) < (bt105.1.length : Int)))) else (impl_IsUnder.j0 k a1 t101 bt105.1 true)) else (impl_IsUnder.j0 k a1 t101 bt105.1 true))) = some r := H
 have A3 := Aside0.mk A30
 clear A30
 replace H := Option.bind_eq_some_iff.mp H
 obtain ⟨⟨t105, t106⟩, A40, H⟩ := H
 replace H : (if t102 = true then (if t106 = true then (impl_IsUnder.j0 k a1 t101 t105 (decide ((t101.length : Int) < (t105.length : Int)))) else (impl_IsUnder.j0 k a1 t101 t105 true)) else (impl_IsUnder.j0 k a1 t101 t105 true)) = some r := H
 have A4 := Aside0.mk A40
 clear A40
 have HC5 := Aside0.mk H
 clear H
 go_enter Tryd.func28, Tryd.ntmps28
 go_upto_region 3 with (first | ((with_reducible refine gate_callee (f := 68) rfl ?_); refine goesL_ (some 11) rfl rfl Tryd.func68 (by kernel_rfl) rfl #[.string a0] rfl (by (try simp only [List.map_toArray, List.map_cons, List.map_nil]); first | done | rfl | (simp only [List.length_drop, List.length_take]; rfl)) ?_; (with_reducible refine (impl_labelsOf.calls k a0 t101 t102 _ A3.out).mono ?_); rintro e w6 ⟨v103, rfl, ho0, hb⟩; refine ⟨_, rfl, ?_⟩; have n0_ := Aside0.mk (Kd.R_lower ho0 (below_size (by repeat (first | (with_reducible first | exact HB.out | apply below_alloc | apply pw_below_drewN | apply below_drew1) | exact HB.out)))); have n1_ := Aside0.mk (below_step (by repeat (first | (with_reducible first | exact HB.out | apply below_alloc | apply pw_below_drewN | apply below_drew1) | exact HB.out)) hb); clear HB; have HO104 := n0_; have HB := n1_; clear n0_ n1_; (try clear hb); (try clear hb2); (try clear hk); (try clear hi); (try clear ho0)) | ((with_reducible refine gate_callee (f := 68) rfl ?_); refine goesL_ (some 16) rfl rfl Tryd.func68 (by kernel_rfl) rfl #[.string a1] rfl (by (try simp only [List.map_toArray, List.map_cons, List.map_nil]); first | done | rfl | (simp only [List.length_drop, List.length_take]; rfl)) ?_; (with_reducible refine (impl_labelsOf.calls k a1 t105 t106 _ A4.out).mono ?_); rintro e w7 ⟨v107, rfl, ho0, hb⟩; refine ⟨_, rfl, ?_⟩; have n0_ := Aside0.mk (Kd.R_elder' (by (with_reducible repeat (first | apply Kd.R_alloc | apply Kd.R_drewN | apply Kd.R_drew)); exact HO104.out) (Kd.R_base ho0) hb); have n1_ := Aside0.mk (Kd.R_lower (Kd.R_new' ho0 (Kd.R_lt (by (with_reducible repeat (first | apply Kd.R_alloc | apply Kd.R_drewN | apply Kd.R_drew)); exact HO104.out))) (below_size (by repeat (first | (with_reducible first | exact HB.out | apply below_alloc | apply pw_below_drewN | apply below_drew1) | exact HB.out)))); have n2_ := Aside0.mk (below_step (by repeat (first | (with_reducible first | exact HB.out | apply below_alloc | apply pw_below_drewN | apply below_drew1) | exact HB.out)) hb); clear HO104; clear HB; have HO104 := n0_; have HO108 := n1_; have HB := n2_; clear n0_ n1_ n2_; (try clear hb); (try clear hb2); (try clear hk); (try clear hi); (try clear ho0)))
 (try simp only [Act.put, List.setIfInBounds_toArray, List.set_cons_zero, List.set_cons_succ])
 go_cut [31] (fun v31 wc => ∃ (kq : Nat) (x31_4 : Bool), v31 = .bool x31_4 ∧ Aside0 (impl_IsUnder.j0 kq a1 t101 t105 x31_4 = some r) ∧ Aside0 (kq ≤ k) ∧ Aside0 (Kd.R Kd.string 9 wc w.heap.size (fun k_ => some k_ ≠ (v107 : Value).ownBlock) v103 t101) ∧ Aside0 (Kd.R Kd.string 9 wc w.heap.size (fun k_ => some k_ ≠ (v103 : Value).ownBlock) v107 t105) ∧ Aside0 (Below w.heap.size w wc))
 case first =>
  have H := HC5.out
  clear HC5
  by_cases c8 : t102 = true
  · subst c8
   have H1 : (if t106 = true then (impl_IsUnder.j0 k a1 t101 t105 (decide ((t101.length : Int) < (t105.length : Int)))) else (impl_IsUnder.j0 k a1 t101 t105 true)) = some r := by rw [if_pos rfl] at H; exact H
   clear H
   have H := H1
   clear H1
   by_cases c9 : t106 = true
   · subst c9
    have H1 : (impl_IsUnder.j0 k a1 t101 t105 (decide ((t101.length : Int) < (t105.length : Int)))) = some r := by rw [if_pos rfl] at H; exact H
    clear H
    have H := H1
    clear H1
    have H' := Aside0.mk H
    clear H
    obtain ⟨Ao10, co10, eo10⟩ := Kd.R_slice HO104.out
    subst eo10
    obtain ⟨Ao11, co11, eo11⟩ := Kd.R_slice HO108.out
    subst eo11
    go_wp2
    go_meet
    case rel => exact ⟨_, (decide ((t101.length : Int) < (t105.length : Int))), (by first | rfl | (simp; done) | (simp [*]; done)), H', ⟨by first | omega | exact Nat.le_refl _⟩, ⟨by (with_reducible repeat (first | apply Kd.R_alloc | apply Kd.R_drewN | apply Kd.R_drew)); exact Kd.R_mono HO104.out (fun _ hk => hk.2)⟩, ⟨by (with_reducible repeat (first | apply Kd.R_alloc | apply Kd.R_drewN | apply Kd.R_drew)); exact Kd.R_mono HO108.out (fun _ hk => hk.2)⟩, ⟨by repeat (first | (with_reducible first | exact HB.out | apply below_alloc | apply pw_below_drewN | apply below_drew1) | exact HB.out)⟩⟩
   · replace c9 := Bool.eq_false_iff.mpr c9
    subst c9
    have H1 : (impl_IsUnder.j0 k a1 t101 t105 true) = some r := by rw [if_neg (show ¬ (false = true) by decide)] at H; exact H
    clear H
    have H := H1
    clear H1
    have H' := Aside0.mk H
    clear H
    go_wp2
    go_meet
    case rel => exact ⟨_, (true), (by first | rfl | (simp; done) | (simp [*]; done)), H', ⟨by first | omega | exact Nat.le_refl _⟩, ⟨by (with_reducible repeat (first | apply Kd.R_alloc | apply Kd.R_drewN | apply Kd.R_drew)); exact Kd.R_mono HO104.out (fun _ hk => hk.2)⟩, ⟨by (with_reducible repeat (first | apply Kd.R_alloc | apply Kd.R_drewN | apply Kd.R_drew)); exact Kd.R_mono HO108.out (fun _ hk => hk.2)⟩, ⟨by repeat (first | (with_reducible first | exact HB.out | apply below_alloc | apply pw_below_drewN | apply below_drew1) | exact HB.out)⟩⟩
  · replace c8 := Bool.eq_false_iff.mpr c8
   subst c8
   have H1 : (impl_IsUnder.j0 k a1 t101 t105 true) = some r := by rw [if_neg (show ¬ (false = true) by decide)] at H; exact H
   clear H
   have H := H1
   clear H1
   have H' := Aside0.mk H
   clear H
   go_wp2
   go_meet
   case rel => exact ⟨_, (true), (by first | rfl | (simp; done) | (simp [*]; done)), H', ⟨by first | omega | exact Nat.le_refl _⟩, ⟨by (with_reducible repeat (first | apply Kd.R_alloc | apply Kd.R_drewN | apply Kd.R_drew)); exact Kd.R_mono HO104.out (fun _ hk => hk.2)⟩, ⟨by (with_reducible repeat (first | apply Kd.R_alloc | apply Kd.R_drewN | apply Kd.R_drew)); exact Kd.R_mono HO108.out (fun _ hk => hk.2)⟩, ⟨by repeat (first | (with_reducible first | exact HB.out | apply below_alloc | apply pw_below_drewN | apply below_drew1) | exact HB.out)⟩⟩
 case rest =>
  clear HC5
  try clear c2
  try clear p2
  try clear c6
  try clear c8
  try clear c9
  obtain ⟨kq, x31_4, rfl, HA, HJ4, HO_5, HO_7, HB⟩ := hcut
  cases kq with
  | zero => exact absurd HA.out (by simp [impl_IsUnder.j0])
  | succ kj4 =>
   have H := HA.out
   clear HA
   simp only [impl_IsUnder.j0] at H
   by_cases c12 : x31_4 = true
   · subst c12
    have H1 : (some false) = some r := by rw [if_pos rfl] at H; exact H
    clear H
    have H := H1
    clear H1
    obtain rfl := Option.some.inj H
    go_wp2
    go_ret
    exact ⟨by first | rfl | (simp [errW_none, errW_some] <;> rfl) | (simp [*, errW_none, errW_some] <;> rfl), by repeat (first | (with_reducible first | exact HB.out | apply below_alloc | apply pw_below_drewN | apply below_drew1) | exact HB.out)⟩
   · replace c12 := Bool.eq_false_iff.mpr c12
    subst c12
    have H1 : (if 0 ≤ (wrap64 ((t101.length : Int) - (t105.length : Int))) then (if (wrap64 ((t101.length : Int) - (t105.length : Int))) ≤ (t101.length : Int) then ((impl_joined.f (t101.drop ((wrap64 ((t101.length : Int) - (t105.length : Int))) : Int).toNat)).bind fun t113 => ((impl_fold.f t113).bind fun t114 => ((impl_fold.f a1).bind fun t115 => (some (t114.toList == t115.toList))))) else (none)) else (none)) = some r := by rw [if_neg (show ¬ (false = true) by decide)] at H; exact H
    clear H
    have H := H1
    clear H1
    obtain ⟨ji13, hji13⟩ : ∃ j_ : Int, (wrap64 ((t101.length : Int) - (t105.length : Int))) = j_ := ⟨_, rfl⟩
    replace H : (if 0 ≤ (ji13) then (if (ji13) ≤ (t101.length : Int) then ((impl_joined.f (t101.drop ((ji13) : Int).toNat)).bind fun t113 => ((impl_fold.f t113).bind fun t114 => ((impl_fold.f a1).bind fun t115 => (some (t114.toList == t115.toList))))) else (none)) else (none)) = some r := by first | (rw [hji13] at H; exact H) | (simp only [hji13] at H ⊢; exact H)
    have hji13w : (IntKind.i64.wrap ((t101.length : Int) - (t105.length : Int))) = ji13 := (i64_w _).trans hji13
    by_cases c14 : 0 ≤ (ji13)
    · rw [if_pos c14] at H
     have c14b0 := eq_true c14
     have c14b1 : decide (0 ≤ (ji13)) = true := decide_eq_true c14
     clear c14
     by_cases c15 : (ji13) ≤ (t101.length : Int)
     · rw [if_pos c15] at H
      have c15b0 := eq_true c15
      have c15b1 : decide ((ji13) ≤ (t101.length : Int)) = true := decide_eq_true c15
      clear c15
      obtain ⟨y109, hy109⟩ : ∃ y_ : List ByteArray, y_ = (t101.drop ((ji13) : Int).toNat) := ⟨_, rfl⟩
      replace H : ((impl_joined.f y109).bind fun t113 => ((impl_fold.f t113).bind fun t114 => ((impl_fold.f a1).bind fun t115 => (some (t114.toList == t115.toList))))) = some r := by first | (rw [hy109]; with_reducible exact H) | (have H2_ := (Option.bind_some _ _).symm.trans H; rw [hy109]; with_reducible exact H2_) | (have H2_ := (Option.bind_some _ _).symm.trans H; with_reducible exact H2_) | with_reducible exact H | (rw [hy109]; exact H) | exact H
      have Ny109 := Aside0.mk hy109
      clear hy109
      replace H := Option.bind_eq_some_iff.mp H
      obtain ⟨t113, A160, H⟩ := H
      replace H : ((impl_fold.f t113).bind fun t114 => ((impl_fold.f a1).bind fun t115 => (some (t114.toList == t115.toList)))) = some r := H
      have A16 := Aside0.mk A160
      clear A160
      replace H := Option.bind_eq_some_iff.mp H
      obtain ⟨t114, A170, H⟩ := H
      replace H : ((impl_fold.f a1).bind fun t115 => (some (t114.toList == t115.toList))) = some r := H
      have A17 := Aside0.mk A170
      clear A170
      replace H := Option.bind_eq_some_iff.mp H
      obtain ⟨t115, A180, H⟩ := H
      replace H : (some (t114.toList == t115.toList)) = some r := H
      have A18 := Aside0.mk A180
      clear A180
      obtain rfl := Option.some.inj H
      obtain ⟨Ao19, co19, eo19⟩ := Kd.R_slice HO_5.out
      subst eo19
      obtain ⟨Ao20, co20, eo20⟩ := Kd.R_slice HO_7.out
      subst eo20
      have q21 : ((ji13) : Int) ≤ ((t101.length : Int) : Int) := of_decide_eq_true (by first | (with_reducible assumption) | assumption)
      obtain ⟨i021, hi021, _, hsz21, _⟩ := info_parts info9
      have hroom21 : t101.length ≤ co19 := (Kd.R_reads' HO_5.out).2.1
      have hC21 : Kd.C Kd.string _ Ao19 t101.length t101 := (Kd.R_reads' HO_5.out).2.2
      have q021 : (0 : Int) ≤ ((ji13) : Int) := of_decide_eq_true (by first | (with_reducible assumption) | assumption)
      have hcut21 := cut_from (P := Tryd.prog) 77 9 .i64 Tryd.underlying77 hi021 1 hsz21 Ao19 t101.length co19 (ji13) q021 q21
      have hr21 := Kd.C_drop (m := ((ji13) : Int).toNat) (c := co19) hC21 (by omega) hroom21
      obtain ⟨A21, hA21⟩ : ∃ A1, A1 = (if co19 = ((ji13) : Int).toNat then Ao19 else (Ao19 : Option Addr).map (·.add (((ji13) : Int).toNat * 1))) := ⟨_, rfl⟩
      obtain ⟨c21, hc21⟩ : ∃ c1, c1 = co19 - ((ji13) : Int).toNat := ⟨_, rfl⟩
      have hy21 : y109.length = t101.length - ((ji13) : Int).toNat := (by rw [Ny109.out, List.length_drop] <;> omega)
      rw [show (t101).drop ((ji13) : Int).toNat = y109 from Ny109.out.symm] at hr21
      replace hr21 : Kd.C Kd.string _ A21 y109.length y109 := (by rw [hA21]; exact hr21)
      rw [← hy21, ← hA21, ← hc21] at hcut21
      have HR112 := Aside0.mk hr21
      have HC112 := Aside0.mk (show y109.length ≤ c21 from by rw [hy21, hc21]; exact Nat.sub_le_sub_right hroom21 _)
      clear hr21 hC21 hroom21 hi021 hsz21 hc21
      have KY21 := Aside0.mk hy21
      have KA21 := Aside0.mk hA21
      clear hy21 hA21
      have KL21 := Aside0.mk (show ((ji13) : Int).toNat ≤ t101.length from by omega)
      replace q21 := eq_true q21
      go_wp2_with (first | ((with_reducible refine gate_callee (f := 50) rfl ?_); refine goesL_ (some 39) rfl rfl Tryd.func50 (by kernel_rfl) rfl #[.slice A21 y109.length c21] rfl (by (try simp only [List.map_toArray, List.map_cons, List.map_nil]); first | done | rfl | (simp only [List.length_drop, List.length_take]; rfl)) ?_; (with_reducible refine (impl_joined.calls _ _ y109 t113 _ ?side1 ?side2 A16.out).mono ?_); (case side1 => repeat (first | exact (by repeat (first | (with_reducible exact HR112.out) | (with_reducible refine Kd.C_alloc ?_ _) | (with_reducible refine Kd.C_drewN ?_ _) | (with_reducible refine Kd.C_drew ?_) | exact HR112.out)) | (with_reducible refine Kd.C_alloc ?_ _) | (with_reducible refine Kd.C_drewN ?_ _) | (with_reducible refine Kd.C_drew ?_))); (case side2 => exact HC112.out); rintro e w22 ⟨rfl, hb⟩; refine ⟨_, rfl, ?_⟩; have n0_ := Aside0.mk (Kd.R_below (by (with_reducible repeat (first | apply Kd.R_alloc | apply Kd.R_drewN | apply Kd.R_drew)); exact HO_5.out) hb); have n1_ := Aside0.mk (Kd.R_below (by (with_reducible repeat (first | apply Kd.R_alloc | apply Kd.R_drewN | apply Kd.R_drew)); exact HO_7.out) hb); have n2_ := Aside0.mk (Kd.C_below (by repeat (first | (with_reducible exact HR112.out) | (with_reducible refine Kd.C_alloc ?_ _) | (with_reducible refine Kd.C_drewN ?_ _) | (with_reducible refine Kd.C_drew ?_) | exact HR112.out)) hb); have n3_ := Aside0.mk (below_step (by repeat (first | (with_reducible first | exact HB.out | apply below_alloc | apply pw_below_drewN | apply below_drew1) | exact HB.out)) hb); clear HO_5; clear HO_7; clear HR112; clear HB; have HO_5 := n0_; have HO_7 := n1_; have HR112 := n2_; have HB := n3_; clear n0_ n1_ n2_ n3_; (try clear hb); (try clear hb2); (try clear hk); (try clear hi)) | ((with_reducible refine gate_callee (f := 69) rfl ?_); refine goesL_ (some 40) rfl rfl Tryd.func69 (by kernel_rfl) rfl #[.string t113] rfl (by (try simp only [List.map_toArray, List.map_cons, List.map_nil]); first | done | rfl | (simp only [List.length_drop, List.length_take]; rfl)) ?_; (with_reducible refine (impl_fold.calls t113 t114 _ A17.out).mono ?_); rintro e w23 ⟨rfl, hb⟩; refine ⟨_, rfl, ?_⟩; have n0_ := Aside0.mk (Kd.R_below (by (with_reducible repeat (first | apply Kd.R_alloc | apply Kd.R_drewN | apply Kd.R_drew)); exact HO_5.out) hb); have n1_ := Aside0.mk (Kd.R_below (by (with_reducible repeat (first | apply Kd.R_alloc | apply Kd.R_drewN | apply Kd.R_drew)); exact HO_7.out) hb); have n2_ := Aside0.mk (Kd.C_below (by repeat (first | (with_reducible exact HR112.out) | (with_reducible refine Kd.C_alloc ?_ _) | (with_reducible refine Kd.C_drewN ?_ _) | (with_reducible refine Kd.C_drew ?_) | exact HR112.out)) hb); have n3_ := Aside0.mk (below_step (by repeat (first | (with_reducible first | exact HB.out | apply below_alloc | apply pw_below_drewN | apply below_drew1) | exact HB.out)) hb); clear HO_5; clear HO_7; clear HR112; clear HB; have HO_5 := n0_; have HO_7 := n1_; have HR112 := n2_; have HB := n3_; clear n0_ n1_ n2_ n3_; (try clear hb); (try clear hb2); (try clear hk); (try clear hi)) | ((with_reducible refine gate_callee (f := 69) rfl ?_); refine goesL_ (some 42) rfl rfl Tryd.func69 (by kernel_rfl) rfl #[.string a1] rfl (by (try simp only [List.map_toArray, List.map_cons, List.map_nil]); first | done | rfl | (simp only [List.length_drop, List.length_take]; rfl)) ?_; (with_reducible refine (impl_fold.calls a1 t115 _ A18.out).mono ?_); rintro e w24 ⟨rfl, hb⟩; refine ⟨_, rfl, ?_⟩; have n0_ := Aside0.mk (Kd.R_below (by (with_reducible repeat (first | apply Kd.R_alloc | apply Kd.R_drewN | apply Kd.R_drew)); exact HO_5.out) hb); have n1_ := Aside0.mk (Kd.R_below (by (with_reducible repeat (first | apply Kd.R_alloc | apply Kd.R_drewN | apply Kd.R_drew)); exact HO_7.out) hb); have n2_ := Aside0.mk (Kd.C_below (by repeat (first | (with_reducible exact HR112.out) | (with_reducible refine Kd.C_alloc ?_ _) | (with_reducible refine Kd.C_drewN ?_ _) | (with_reducible refine Kd.C_drew ?_) | exact HR112.out)) hb); have n3_ := Aside0.mk (below_step (by repeat (first | (with_reducible first | exact HB.out | apply below_alloc | apply pw_below_drewN | apply below_drew1) | exact HB.out)) hb); clear HO_5; clear HO_7; clear HR112; clear HB; have HO_5 := n0_; have HO_7 := n1_; have HR112 := n2_; have HB := n3_; clear n0_ n1_ n2_ n3_; (try clear hb); (try clear hb2); (try clear hk); (try clear hi)))
      go_ret
      exact ⟨by first | rfl | (simp [errW_none, errW_some] <;> rfl) | (simp only [← hji13]; first | rfl | (simp [errW_none, errW_some] <;> rfl)) | (simp [*, errW_none, errW_some] <;> rfl), by repeat (first | (with_reducible first | exact HB.out | apply below_alloc | apply pw_below_drewN | apply below_drew1) | exact HB.out)⟩
     · rw [if_neg c15] at H
      exact absurd H (by simp)
    · rw [if_neg c14] at H
     exact absurd H (by simp)

end Go.Proofs.YtpnbhblmfglkcaaDoor.F
namespace Go.Proofs.YtpnbhblmfglkcaaDoor.F
open Go Go.Shelf Go.RowKit Go.Proofs.YtpnbhblmfglkcaaDoorW.PrintWords Go.Proofs.YtpnbhblmfglkcaaDoorW.PrintLast Go.Proofs.YtpnbhblmfglkcaaDoorW.PrintMore
attribute [local go_sem] max2_int min2_int max_two min_two max_three min_three max_four min_four   -- for this text's walks alone
set_option linter.unusedVariables false
set_option linter.unusedSimpArgs false

/-! ### impl_isMeta: function 30 -/
def impl_isMeta.f (a0 : Int) : Option (Bool) := if a0 = 0 then (some true) else (if a0 = 41 then (some true) else (if a0 ≥ 249 then (some (decide (a0 ≤ 255))) else (some false)))
set_option maxHeartbeats 8000000 in
set_option maxRecDepth 100000 in
theorem impl_isMeta.calls (a0 : Int) (r : Bool) (w : World) (h : impl_isMeta.f a0 = some r) :
  Calls Tryd.prog 30 #[.int .i64 a0] w fun e w' => e = .returned (.bool r) ∧ Drawn0 w w' := by
 have H : (if a0 = 0 then (some true) else (if a0 = 41 then (some true) else (if a0 ≥ 249 then (some (decide (a0 ≤ 255))) else (some false)))) = some r := h
 clear h
 by_cases c2 : a0 = 0
 · rw [if_pos c2] at H
  have c2b0 : (a0 == 0) = true := beq_iff_eq.mpr c2
  have c2b1 : (a0 != 0) = false := bne_eq_false_iff_eq.mpr c2
  clear c2
  obtain rfl := Option.some.inj H
  go_enter Tryd.func30, Tryd.ntmps30
  go_wp2
  go_ret
  exact ⟨by first | rfl | (simp; done) | (simp [*]; done), by repeat (first | exact Drawn0.refl _ | apply Drawn0.step)⟩
 · rw [if_neg c2] at H
  have c2b0 : (a0 == 0) = false := beq_eq_false_iff_ne.mpr c2
  have c2b1 : (a0 != 0) = true := bne_iff_ne.mpr c2
  by_cases c3 : a0 = 41
  · rw [if_pos c3] at H
   have c3b0 : (a0 == 41) = true := beq_iff_eq.mpr c3
   have c3b1 : (a0 != 41) = false := bne_eq_false_iff_eq.mpr c3
   clear c3
   obtain rfl := Option.some.inj H
   go_enter Tryd.func30, Tryd.ntmps30
   go_wp2
   go_ret
   exact ⟨by first | rfl | (simp; done) | (simp [*]; done), by repeat (first | exact Drawn0.refl _ | apply Drawn0.step)⟩
  · rw [if_neg c3] at H
   have c3b0 : (a0 == 41) = false := beq_eq_false_iff_ne.mpr c3
   have c3b1 : (a0 != 41) = true := bne_iff_ne.mpr c3
   by_cases c4 : a0 ≥ 249
   · rw [if_pos c4] at H
    have c4b0 : decide (249 ≤ a0) = true := decide_eq_true c4
    clear c4
    obtain rfl := Option.some.inj H
    go_enter Tryd.func30, Tryd.ntmps30
    go_wp2
    go_ret
    exact ⟨by first | rfl | (simp; done) | (simp [*]; done), by repeat (first | exact Drawn0.refl _ | apply Drawn0.step)⟩
   · rw [if_neg c4] at H
    have c4b0 : decide (249 ≤ a0) = false := decide_eq_false c4
    clear c4
    obtain rfl := Option.some.inj H
    go_enter Tryd.func30, Tryd.ntmps30
    go_wp2
    go_ret
    exact ⟨by first | rfl | (simp; done) | (simp [*]; done), by repeat (first | exact Drawn0.refl _ | apply Drawn0.step)⟩

end Go.Proofs.YtpnbhblmfglkcaaDoor.F
namespace Go.Proofs.YtpnbhblmfglkcaaDoor.F
open Go Go.Shelf Go.RowKit Go.Proofs.YtpnbhblmfglkcaaDoorW.PrintWords Go.Proofs.YtpnbhblmfglkcaaDoorW.PrintLast Go.Proofs.YtpnbhblmfglkcaaDoorW.PrintMore
attribute [local go_sem] max2_int min2_int max_two min_two max_three min_three max_four min_four   -- for this text's walks alone
set_option linter.unusedVariables false
set_option linter.unusedSimpArgs false

/-! ### impl_CheckChanges: function 9 -/
mutual
def impl_CheckChanges.j0 : Nat → ByteArray → List (S50) → Bool → Option (Int × Int)
 | 0, _, _, _ => none
 | k + 1, x0, x1, x17 => if x17 = true then (some (0, 32)) else (impl_CheckChanges.l0 k x0 x1 (x1.length : Int) 0)
def impl_CheckChanges.l0 : Nat → ByteArray → List (S50) → Int → Int → Option (Int × Int)
 | 0, _, _, _, _ => none
 | k + 1, x0, x18, x19, x20 => if x20 < x19 then (if 0 ≤ x20 then (if x20 < (x18.length : Int) then ((impl_IsUnder.f k ((rd_T50 x18 x20).f0) x0).bind fun t105 => (if t105 = true then ((impl_CheckData.f k ((rd_T50 x18 x20).f1) ((rd_T50 x18 x20).f4)).bind fun t106 => (if ((rd_T50 x18 x20).f2) = 1 then ((impl_isMeta.f ((rd_T50 x18 x20).f1)).bind fun t107 => (if t107 = true then (some (1, 0)) else (if t106 = 0 then (if (((rd_T50 x18 x20).f3) ≤ 2147483647) then (impl_CheckChanges.l0 k x0 x18 x19 (wrap64 (x20 + 1))) else (some (1, 0))) else (some (1, 0))))) else (if ((rd_T50 x18 x20).f2) = 255 then (if ((rd_T50 x18 x20).f3) = 0 then (if ((rd_T50 x18 x20).f4).toList = ([] : List UInt8) then ((impl_isMeta.f ((rd_T50 x18 x20).f1)).bind fun t108 => (if t108 = true then (if (((rd_T50 x18 x20).f1) = 255) then (impl_CheckChanges.l0 k x0 x18 x19 (wrap64 (x20 + 1))) else (some (1, 0))) else (impl_CheckChanges.l0 k x0 x18 x19 (wrap64 (x20 + 1))))) else (some (1, 0))) else (some (1, 0))) else (if ((rd_T50 x18 x20).f2) = 254 then (if ((rd_T50 x18 x20).f3) = 0 then ((impl_isMeta.f ((rd_T50 x18 x20).f1)).bind fun t109 => (if t109 = true then (some (1, 0)) else (if t106 = 0 then (impl_CheckChanges.l0 k x0 x18 x19 (wrap64 (x20 + 1))) else (some (1, 0))))) else (some (1, 0))) else (some (1, 0)))))) else (some (10, 0)))) else (none)) else (none)) else (some (0, 0))
end
def impl_CheckChanges.f (k : Nat) (a0 : ByteArray) (l1 : List (S50)) : Option (Int × Int) := (impl_NameOK.f k a0).bind fun t101 => (if t101 = true then ((impl_soundList.f k l1).bind fun t102 => (impl_CheckChanges.j0 k a0 l1 (!t102))) else (impl_CheckChanges.j0 k a0 l1 true))
theorem impl_CheckChanges.mono_l : ∀ k, (∀ y0 y1 y2, LeO (impl_CheckChanges.j0 k y0 y1 y2) (impl_CheckChanges.j0 (k + 1) y0 y1 y2)) ∧ (∀ y0 y1 y2 y3, LeO (impl_CheckChanges.l0 k y0 y1 y2 y3) (impl_CheckChanges.l0 (k + 1) y0 y1 y2 y3))
 | 0 => ⟨fun _ _ _ r h => by simp [impl_CheckChanges.j0] at h, fun _ _ _ _ r h => by simp [impl_CheckChanges.l0] at h⟩
 | k + 1 => by
  obtain ⟨ih0, ih1⟩ := impl_CheckChanges.mono_l k
  refine ⟨?_, ?_⟩
  · intro y0 y1 y2
   unfold impl_CheckChanges.j0
   repeat' first
   | (with_reducible exact ih0 _ _ _)
   | (with_reducible exact ih1 _ _ _ _)
   | (with_reducible exact impl_CheckData.mono _ _ _)
   | (with_reducible exact impl_IsUnder.mono _ _ _)
   | (with_reducible exact impl_NameOK.mono _ _)
   | (with_reducible exact impl_soundList.mono _ _)
   | (with_reducible exact LeO.refl _)
   | (with_reducible exact LeO.none _)
   | (with_reducible refine LeO.ite ?_ ?_)
   | (with_reducible refine LeO.bind ?_ (fun _ => ?_))
   | exact ih0 _ _ _
   | exact ih1 _ _ _ _
   | exact impl_CheckData.mono _ _ _
   | exact impl_IsUnder.mono _ _ _
   | exact impl_NameOK.mono _ _
   | exact impl_soundList.mono _ _
   | exact LeO.none _
   | refine LeO.ite ?_ ?_
   | refine LeO.bind ?_ (fun _ => ?_)
  · intro y0 y1 y2 y3
   unfold impl_CheckChanges.l0
   repeat' first
   | (with_reducible exact ih0 _ _ _)
   | (with_reducible exact ih1 _ _ _ _)
   | (with_reducible exact impl_CheckData.mono _ _ _)
   | (with_reducible exact impl_IsUnder.mono _ _ _)
   | (with_reducible exact impl_NameOK.mono _ _)
   | (with_reducible exact impl_soundList.mono _ _)
   | (with_reducible exact LeO.refl _)
   | (with_reducible exact LeO.none _)
   | (with_reducible refine LeO.ite ?_ ?_)
   | (with_reducible refine LeO.bind ?_ (fun _ => ?_))
   | exact ih0 _ _ _
   | exact ih1 _ _ _ _
   | exact impl_CheckData.mono _ _ _
   | exact impl_IsUnder.mono _ _ _
   | exact impl_NameOK.mono _ _
   | exact impl_soundList.mono _ _
   | exact LeO.none _
   | refine LeO.ite ?_ ?_
   | refine LeO.bind ?_ (fun _ => ?_)
theorem impl_CheckChanges.mono : ∀ a0 a1 k, LeO (impl_CheckChanges.f k a0 a1) (impl_CheckChanges.f (k + 1) a0 a1) := by
 intro a0 a1 k
 obtain ⟨ih0, ih1⟩ := impl_CheckChanges.mono_l k
 unfold impl_CheckChanges.f
 repeat' first
   | (with_reducible exact ih0 _ _ _)
   | (with_reducible exact ih1 _ _ _ _)
   | (with_reducible exact impl_CheckData.mono _ _ _)
   | (with_reducible exact impl_IsUnder.mono _ _ _)
   | (with_reducible exact impl_NameOK.mono _ _)
   | (with_reducible exact impl_soundList.mono _ _)
   | (with_reducible exact LeO.refl _)
   | (with_reducible exact LeO.none _)
   | (with_reducible refine LeO.ite ?_ ?_)
   | (with_reducible refine LeO.bind ?_ (fun _ => ?_))
   | exact ih0 _ _ _
   | exact ih1 _ _ _ _
   | exact impl_CheckData.mono _ _ _
   | exact impl_IsUnder.mono _ _ _
   | exact impl_NameOK.mono _ _
   | exact impl_soundList.mono _ _
   | exact LeO.none _
   | refine LeO.ite ?_ ?_
   | refine LeO.bind ?_ (fun _ => ?_)
set_option maxHeartbeats 8000000 in
set_option maxRecDepth 100000 in
theorem impl_CheckChanges.calls (k : Nat) (a0 : ByteArray) (A1 : Option Addr) (c1 : Nat) (l1 : List (S50)) (r1 : Int) (r2 : Int) (w : World) (hr1 : Kd.C k50 w A1 l1.length l1) (hc1 : l1.length ≤ c1) (h : impl_CheckChanges.f k a0 l1 = some (r1, r2)) (hG : Glob w) :
  Calls Tryd.prog 9 #[.string a0, .slice A1 l1.length c1] w fun e w' => e = .returned (.tuple #[.int .i64 r1, .int .i64 r2]) ∧ Below w.heap.size w w' := by
 have HG := Aside0.mk hG
 clear hG
 have hu50 := Tryd.underlying50
 have HR1 := Aside0.mk hr1
 have HC1 := Aside0.mk hc1
 clear hr1 hc1
 have HB := Aside0.mk (Below.refl w.heap.size w)
 have H : ((impl_NameOK.f k a0).bind fun t101 => (if t101 = true then ((impl_soundList.f k l1).bind fun t102 => (impl_CheckChanges.j0 k a0 l1 (!t102))) else (impl_CheckChanges.j0 k a0 l1 true))) = some (r1, r2) := h
 clear h
 have HC3 := Aside0.mk H
 clear H
 go_enter Tryd.func9, Tryd.ntmps9
 go_upto_region 1 with (fail)
 go_cut [17] (fun v17 wc => ∃ (kq : Nat) (x17_2 : Bool), v17 = .bool x17_2 ∧ Aside0 (impl_CheckChanges.j0 kq a0 l1 x17_2 = some (r1, r2)) ∧ Aside0 (kq ≤ k) ∧ Aside0 (Below w.heap.size w wc))
 case first =>
  have H := HC3.out
  clear HC3
  replace H := Option.bind_eq_some_iff.mp H
  obtain ⟨t101, A40, H⟩ := H
  replace H : (if t101 = true then ((impl_soundList.f k l1).bind fun t102 => (impl_CheckChanges.j0 k a0 l1 (!t102))) else (impl_CheckChanges.j0 k a0 l1 true)) = some (r1, r2) := H
  have A4 := Aside0.mk A40
  clear A40
  by_cases c5 : t101 = true
  · subst c5
   have H1 : ((impl_soundList.f k l1).bind fun t102 => (impl_CheckChanges.j0 k a0 l1 (!t102))) = some (r1, r2) := by rw [if_pos rfl] at H; exact H
   clear H
   have H := H1
   clear H1
   replace H := Option.bind_eq_some_iff.mp H
   obtain ⟨t102, A60, H⟩ := H
   replace H : (impl_CheckChanges.j0 k a0 l1 (!t102)) = some (r1, r2) := H
   have A6 := Aside0.mk A60
   clear A60
   have H' := Aside0.mk H
   clear H
   go_wp2_with (first | ((with_reducible refine gate_callee (f := 26) rfl ?_); refine goesL_ (some 11) rfl rfl Tryd.func26 (by kernel_rfl) rfl #[.string a0] rfl (by (try simp only [List.map_toArray, List.map_cons, List.map_nil]); first | done | rfl | (simp only [List.length_drop, List.length_take]; rfl)) ?_; (with_reducible refine (impl_NameOK.calls k a0 true _ A4.out).mono ?_); rintro e w7 ⟨rfl, hb⟩; refine ⟨_, rfl, ?_⟩; have n0_ := Aside0.mk (below_step (by repeat (first | (with_reducible first | exact HB.out | apply below_alloc | apply pw_below_drewN | apply below_drew1) | exact HB.out)) hb); clear HB; have HB := n0_; clear n0_; (try clear hb); (try clear hb2); (try clear hk); (try clear hi)) | (go_at_call 27; (with_reducible refine (impl_soundList.calls k _ _ l1 t102 _ ?side1 ?side2 A6.out (HG.out.below (by repeat (first | (with_reducible first | exact HB.out | apply below_alloc | apply pw_below_drewN | apply below_drew1) | exact HB.out)))).mono ?_); (case side1 => repeat (first | exact (Kd.C_below HR1.out HB.out) | (with_reducible refine Kd.C_alloc ?_ _) | (with_reducible refine Kd.C_drewN ?_ _) | (with_reducible refine Kd.C_drew ?_))); (case side2 => exact HC1.out); rintro e w8 ⟨rfl, hb⟩; have n0_ := Aside0.mk (below_step (by repeat (first | (with_reducible first | exact HB.out | apply below_alloc | apply pw_below_drewN | apply below_drew1) | exact HB.out)) hb); clear HB; have HB := n0_; clear n0_; (try clear hb); (try clear hb2); (try clear hk); (try clear hi)))
   go_meet
   case rel => exact ⟨_, (!t102), (by first | rfl | (simp; done) | (simp [*]; done)), H', ⟨by first | omega | exact Nat.le_refl _⟩, ⟨by repeat (first | (with_reducible first | exact HB.out | apply below_alloc | apply pw_below_drewN | apply below_drew1) | exact HB.out)⟩⟩
  · replace c5 := Bool.eq_false_iff.mpr c5
   subst c5
   have H1 : (impl_CheckChanges.j0 k a0 l1 true) = some (r1, r2) := by rw [if_neg (show ¬ (false = true) by decide)] at H; exact H
   clear H
   have H := H1
   clear H1
   have H' := Aside0.mk H
   clear H
   go_wp2_with (first | ((with_reducible refine gate_callee (f := 26) rfl ?_); refine goesL_ (some 11) rfl rfl Tryd.func26 (by kernel_rfl) rfl #[.string a0] rfl (by (try simp only [List.map_toArray, List.map_cons, List.map_nil]); first | done | rfl | (simp only [List.length_drop, List.length_take]; rfl)) ?_; (with_reducible refine (impl_NameOK.calls k a0 false _ A4.out).mono ?_); rintro e w9 ⟨rfl, hb⟩; refine ⟨_, rfl, ?_⟩; have n0_ := Aside0.mk (below_step (by repeat (first | (with_reducible first | exact HB.out | apply below_alloc | apply pw_below_drewN | apply below_drew1) | exact HB.out)) hb); clear HB; have HB := n0_; clear n0_; (try clear hb); (try clear hb2); (try clear hk); (try clear hi)))
   go_meet
   case rel => exact ⟨_, (true), (by first | rfl | (simp; done) | (simp [*]; done)), H', ⟨by first | omega | exact Nat.le_refl _⟩, ⟨by repeat (first | (with_reducible first | exact HB.out | apply below_alloc | apply pw_below_drewN | apply below_drew1) | exact HB.out)⟩⟩
 case rest =>
  clear HC3
  try clear c1
  try clear c2
  try clear p2
  try clear c5
  try clear c9
  obtain ⟨kq, x17_2, rfl, HA, HJ2, HB⟩ := hcut
  cases kq with
  | zero => exact absurd HA.out (by simp [impl_CheckChanges.j0])
  | succ kj2 =>
   have H := HA.out
   clear HA
   simp only [impl_CheckChanges.j0] at H
   by_cases c10 : x17_2 = true
   · subst c10
    have H1 : (some (0, 32)) = some (r1, r2) := by rw [if_pos rfl] at H; exact H
    clear H
    have H := H1
    clear H1
    simp only [Option.some.injEq, Prod.mk.injEq] at H
    obtain ⟨rfl, rfl⟩ := H
    go_wp2
    go_ret2
    exact ⟨by first | rfl | (simp [errW_none, errW_some] <;> rfl) | (simp [*, errW_none, errW_some] <;> rfl), by repeat (first | (with_reducible first | exact HB.out | apply below_alloc | apply pw_below_drewN | apply below_drew1) | exact HB.out)⟩
   · replace c10 := Bool.eq_false_iff.mpr c10
    subst c10
    have H1 : (impl_CheckChanges.l0 kj2 a0 l1 (l1.length : Int) 0) = some (r1, r2) := by rw [if_neg (show ¬ (false = true) by decide)] at H; exact H
    clear H
    have H := H1
    clear H1
    have H' := Aside0.mk H
    clear H
    go_wp2
    go_loopg [20] kj2 (fun kq v20 w' => ∃ (x20_2 : Int), v20 = .int .i64 x20_2 ∧ Aside0 (impl_CheckChanges.l0 kq a0 l1 (l1.length : Int) x20_2 = some (r1, r2)) ∧ Aside0 (kq ≤ kj2) ∧ Aside0 (Below w.heap.size w w'))
    case atStart => exact ⟨(0), (by first | rfl | (simp; done) | (simp [*]; done)), H', ⟨Nat.le_refl _⟩, ⟨by repeat (first | (with_reducible first | exact HB.out | apply below_alloc | apply pw_below_drewN | apply below_drew1) | exact HB.out)⟩⟩
    case round =>
     clear H'
     try clear c1
     try clear c2
     try clear p2
     try clear c5
     try clear c9
     try clear c10
     try clear p2
     obtain ⟨x20_2, rfl, HA, HK2, HB⟩ := hrel
     cases gk with
     | zero => exact absurd HA.out (by simp [impl_CheckChanges.l0])
     | succ k2 =>
      have H := HA.out
      clear HA
      simp only [impl_CheckChanges.l0] at H
      by_cases c11 : x20_2 < (l1.length : Int)
      · rw [if_pos c11] at H
       have c11b0 : decide (x20_2 < (l1.length : Int)) = true := decide_eq_true c11
       clear c11
       by_cases c12 : 0 ≤ x20_2
       · rw [if_pos c12] at H
        have c12b0 : decide (0 ≤ x20_2) = true := decide_eq_true c12
        clear c12
        by_cases c13 : x20_2 < (l1.length : Int)
        · rw [if_pos c13] at H
         have c13b0 : decide (x20_2 < (l1.length : Int)) = true := decide_eq_true c13
         clear c13
         replace H := Option.bind_eq_some_iff.mp H
         obtain ⟨t105, A140, H⟩ := H
         replace H : (if t105 = true then ((impl_CheckData.f k2 ((rd_T50 l1 x20_2).f1) ((rd_T50 l1 x20_2).f4)).bind fun t106 => (if ((rd_T50 l1 x20_2).f2) = 1 then ((impl_isMeta.f ((rd_T50 l1 x20_2).f1)).bind fun t107 => (if t107 = true then (some (1, 0)) else (if t106 = 0 then (if (((rd_T50 l1 x20_2).f3) ≤ 2147483647) then (impl_CheckChanges.l0 k2 a0 l1 (l1.length : Int) (wrap64 (x20_2 + 1))) else (some (1, 0))) else (some (1, 0))))) else (if ((rd_T50 l1 x20_2).f2) = 255 then (if ((rd_T50 l1 x20_2).f3) = 0 then (if ((rd_T50 l1 x20_2).f4).toList = ([] : List UInt8) then ((impl_isMeta.f ((rd_T50 l1 x20_2).f1)).bind fun t108 => (if t108 = true then (if (((rd_T50 l1 x20_2).f1) = 255) then (impl_CheckChanges.l0 k2 a0 l1 (l1.length : Int) (wrap64 (x20_2 + 1))) else (some (1, 0))) else (impl_CheckChanges.l0 k2 a0 l1 (l1.length : Int) (wrap64 (x20_2 + 1))))) else (some (1, 0))) else (some (1, 0))) else (if ((rd_T50 l1 x20_2).f2) = 254 then (if ((rd_T50 l1 x20_2).f3) = 0 then ((impl_isMeta.f ((rd_T50 l1 x20_2).f1)).bind fun t109 => (if t109 = true then (some (1, 0)) else (if t106 = 0 then (impl_CheckChanges.l0 k2 a0 l1 (l1.length : Int) (wrap64 (x20_2 + 1))) else (some (1, 0))))) else (some (1, 0))) else (some (1, 0)))))) else (some (10, 0))) = some (r1, r2) := H
         have A14 := Aside0.mk A140
         clear A140
         by_cases c15 : t105 = true
         · subst c15
          have H1 : ((impl_CheckData.f k2 ((rd_T50 l1 x20_2).f1) ((rd_T50 l1 x20_2).f4)).bind fun t106 => (if ((rd_T50 l1 x20_2).f2) = 1 then ((impl_isMeta.f ((rd_T50 l1 x20_2).f1)).bind fun t107 => (if t107 = true then (some (1, 0)) else (if t106 = 0 then (if (((rd_T50 l1 x20_2).f3) ≤ 2147483647) then (impl_CheckChanges.l0 k2 a0 l1 (l1.length : Int) (wrap64 (x20_2 + 1))) else (some (1, 0))) else (some (1, 0))))) else (if ((rd_T50 l1 x20_2).f2) = 255 then (if ((rd_T50 l1 x20_2).f3) = 0 then (if ((rd_T50 l1 x20_2).f4).toList = ([] : List UInt8) then ((impl_isMeta.f ((rd_T50 l1 x20_2).f1)).bind fun t108 => (if t108 = true then (if (((rd_T50 l1 x20_2).f1) = 255) then (impl_CheckChanges.l0 k2 a0 l1 (l1.length : Int) (wrap64 (x20_2 + 1))) else (some (1, 0))) else (impl_CheckChanges.l0 k2 a0 l1 (l1.length : Int) (wrap64 (x20_2 + 1))))) else (some (1, 0))) else (some (1, 0))) else (if ((rd_T50 l1 x20_2).f2) = 254 then (if ((rd_T50 l1 x20_2).f3) = 0 then ((impl_isMeta.f ((rd_T50 l1 x20_2).f1)).bind fun t109 => (if t109 = true then (some (1, 0)) else (if t106 = 0 then (impl_CheckChanges.l0 k2 a0 l1 (l1.length : Int) (wrap64 (x20_2 + 1))) else (some (1, 0))))) else (some (1, 0))) else (some (1, 0)))))) = some (r1, r2) := by rw [if_pos rfl] at H; exact H
          clear H
          have H := H1
          clear H1
          replace H := Option.bind_eq_some_iff.mp H
          obtain ⟨t106, A160, H⟩ := H
          replace H : (if ((rd_T50 l1 x20_2).f2) = 1 then ((impl_isMeta.f ((rd_T50 l1 x20_2).f1)).bind fun t107 => (if t107 = true then (some (1, 0)) else (if t106 = 0 then (if (((rd_T50 l1 x20_2).f3) ≤ 2147483647) then (impl_CheckChanges.l0 k2 a0 l1 (l1.length : Int) (wrap64 (x20_2 + 1))) else (some (1, 0))) else (some (1, 0))))) else (if ((rd_T50 l1 x20_2).f2) = 255 then (if ((rd_T50 l1 x20_2).f3) = 0 then (if ((rd_T50 l1 x20_2).f4).toList = ([] : List UInt8) then ((impl_isMeta.f ((rd_T50 l1 x20_2).f1)).bind fun t108 => (if t108 = true then (if (((rd_T50 l1 x20_2).f1) = 255) then (impl_CheckChanges.l0 k2 a0 l1 (l1.length : Int) (wrap64 (x20_2 + 1))) else (some (1, 0))) else (impl_CheckChanges.l0 k2 a0 l1 (l1.length : Int) (wrap64 (x20_2 + 1))))) else (some (1, 0))) else (some (1, 0))) else (if ((rd_T50 l1 x20_2).f2) = 254 then (if ((rd_T50 l1 x20_2).f3) = 0 then ((impl_isMeta.f ((rd_T50 l1 x20_2).f1)).bind fun t109 => (if t109 = true then (some (1, 0)) else (if t106 = 0 then (impl_CheckChanges.l0 k2 a0 l1 (l1.length : Int) (wrap64 (x20_2 + 1))) else (some (1, 0))))) else (some (1, 0))) else (some (1, 0))))) = some (r1, r2) := H
          have A16 := Aside0.mk A160
          clear A160
          by_cases c17 : ((rd_T50 l1 x20_2).f2) = 1
          · rw [if_pos c17] at H
           have c17b0 : (((rd_T50 l1 x20_2).f2) == 1) = true := beq_iff_eq.mpr c17
           have c17b1 : (((rd_T50 l1 x20_2).f2) != 1) = false := bne_eq_false_iff_eq.mpr c17
           clear c17
           replace H := Option.bind_eq_some_iff.mp H
           obtain ⟨t107, A180, H⟩ := H
           replace H : (if t107 = true then (some (1, 0)) else (if t106 = 0 then (if (((rd_T50 l1 x20_2).f3) ≤ 2147483647) then (impl_CheckChanges.l0 k2 a0 l1 (l1.length : Int) (wrap64 (x20_2 + 1))) else (some (1, 0))) else (some (1, 0)))) = some (r1, r2) := H
           have A18 := Aside0.mk A180
           clear A180
           by_cases c19 : t107 = true
           · subst c19
            have H1 : (some (1, 0)) = some (r1, r2) := by rw [if_pos rfl] at H; exact H
            clear H
            have H := H1
            clear H1
            simp only [Option.some.injEq, Prod.mk.injEq] at H
            obtain ⟨rfl, rfl⟩ := H
            have p103 : 0 ≤ (x20_2 : Int) := of_decide_eq_true (by first | (with_reducible assumption) | assumption)
            have q103 : x20_2 < (l1.length : Int) := of_decide_eq_true (by first | (with_reducible assumption) | assumption)
            obtain ⟨ad103, e103, hx103_0, hx103_1, hx103_2, hx103_3, hx103_4⟩ := at_T50 HR1.out x20_2 p103 q103
            cases e103
            replace hx103_0 := (HB.out.cell (World.block_lt_of_cell? w _ hx103_0)).trans hx103_0
            replace hx103_1 := (HB.out.cell (World.block_lt_of_cell? w _ hx103_1)).trans hx103_1
            replace hx103_2 := (HB.out.cell (World.block_lt_of_cell? w _ hx103_2)).trans hx103_2
            replace hx103_3 := (HB.out.cell (World.block_lt_of_cell? w _ hx103_3)).trans hx103_3
            replace hx103_4 := (HB.out.cell (World.block_lt_of_cell? w _ hx103_4)).trans hx103_4
            replace p103 := eq_true p103
            replace q103 := eq_true q103
            go_wp2_with (first | ((with_reducible refine gate_dst (N := 7) rfl ?_); refine box_event ?hg (N := 7) ?hd (cs := #[.string (⟨#[]⟩ : ByteArray), .int .i64 0, .int .i64 0, .int .i64 0, .string (⟨#[]⟩ : ByteArray)]) (t := 50) ?hr ?_; (case hd => rfl); (case hg => rfl); (case hr => first | (go_simp; done) | (go_simp; rfl)); intro gb104 hg w20 hbox hb; have n0_ := Aside0.mk (below_step (by repeat (first | (with_reducible first | exact HB.out | apply below_alloc | apply pw_below_drewN | apply below_drew1) | exact HB.out)) hb); have n1_ := Aside0.mk (hbox); have n2_ := Aside0.mk ((by rw [hg]; exact (below_size (by repeat (first | (with_reducible first | exact HB.out | apply below_alloc | apply pw_below_drewN | apply below_drew1) | exact HB.out))) : w.heap.size ≤ gb104)); have n3_ := Aside0.mk ((by rw [hg]; exact (below_size (by repeat (first | (with_reducible first | exact HB.out | apply below_alloc | apply pw_below_drewN | apply below_drew1) | exact HB.out))) : w.heap.size ≤ gb104)); clear HB; have HB := n0_; have BK104 := n1_; have GW104 := n2_; have GE104 := n3_; clear n0_ n1_ n2_ n3_; clear hb hbox hg; have hcz21_0 : w20.cell? ⟨gb104, 0, none⟩ = some (.string (⟨#[]⟩ : ByteArray)) := (blk_cell BK104.out 0).trans rfl; have hcz21_1 : w20.cell? ⟨gb104, 1, none⟩ = some (.int .i64 0) := (blk_cell BK104.out 1).trans rfl; have hcz21_2 : w20.cell? ⟨gb104, 2, none⟩ = some (.int .i64 0) := (blk_cell BK104.out 2).trans rfl; have hcz21_3 : w20.cell? ⟨gb104, 3, none⟩ = some (.int .i64 0) := (blk_cell BK104.out 3).trans rfl; have hcz21_4 : w20.cell? ⟨gb104, 4, none⟩ = some (.string (⟨#[]⟩ : ByteArray)) := (blk_cell BK104.out 4).trans rfl; have hfz21_0 := blk_frozen BK104.out 0; have hfz21_1 := blk_frozen BK104.out 1; have hfz21_2 := blk_frozen BK104.out 2; have hfz21_3 := blk_frozen BK104.out 3; have hfz21_4 := blk_frozen BK104.out 4) | ((with_reducible refine gate_callee (f := 28) rfl ?_); refine goesL_ (some 27) rfl rfl Tryd.func28 (by kernel_rfl) rfl #[.string ((rd_T50 l1 x20_2).f0), .string a0] rfl (by (try simp only [List.map_toArray, List.map_cons, List.map_nil]); first | done | rfl | (simp only [List.length_drop, List.length_take]; rfl)) ?_; (with_reducible refine (impl_IsUnder.calls k2 ((rd_T50 l1 x20_2).f0) a0 true _ A14.out).mono ?_); rintro e w22 ⟨rfl, hb⟩; refine ⟨_, rfl, ?_⟩; have n0_ := Aside0.mk (blk_below (g := gb104) (o := .cells #[.string ((rd_T50 l1 x20_2).f0), .int .i64 ((rd_T50 l1 x20_2).f1), .int .i64 ((rd_T50 l1 x20_2).f2), .int .i64 ((rd_T50 l1 x20_2).f3), .string ((rd_T50 l1 x20_2).f4)] 50 (0, 0)) (by (with_reducible repeat (first | refine blk_drewN ?_ _ | refine blk_drew ?_ | refine blk_alloc ?_ _)); refine blk_put (cs := #[.string ((rd_T50 l1 x20_2).f0), .int .i64 ((rd_T50 l1 x20_2).f1), .int .i64 ((rd_T50 l1 x20_2).f2), .int .i64 ((rd_T50 l1 x20_2).f3), .string (⟨#[]⟩ : ByteArray)]) ?_ 4 _ rfl; (with_reducible repeat (first | refine blk_drewN ?_ _ | refine blk_drew ?_ | refine blk_alloc ?_ _)); refine blk_put (cs := #[.string ((rd_T50 l1 x20_2).f0), .int .i64 ((rd_T50 l1 x20_2).f1), .int .i64 ((rd_T50 l1 x20_2).f2), .int .i64 0, .string (⟨#[]⟩ : ByteArray)]) ?_ 3 _ rfl; (with_reducible repeat (first | refine blk_drewN ?_ _ | refine blk_drew ?_ | refine blk_alloc ?_ _)); refine blk_put (cs := #[.string ((rd_T50 l1 x20_2).f0), .int .i64 ((rd_T50 l1 x20_2).f1), .int .i64 0, .int .i64 0, .string (⟨#[]⟩ : ByteArray)]) ?_ 2 _ rfl; (with_reducible repeat (first | refine blk_drewN ?_ _ | refine blk_drew ?_ | refine blk_alloc ?_ _)); refine blk_put (cs := #[.string ((rd_T50 l1 x20_2).f0), .int .i64 0, .int .i64 0, .int .i64 0, .string (⟨#[]⟩ : ByteArray)]) ?_ 1 _ rfl; (with_reducible repeat (first | refine blk_drewN ?_ _ | refine blk_drew ?_ | refine blk_alloc ?_ _)); refine blk_put (cs := #[.string (⟨#[]⟩ : ByteArray), .int .i64 0, .int .i64 0, .int .i64 0, .string (⟨#[]⟩ : ByteArray)]) ?_ 0 _ rfl; (with_reducible repeat (first | refine blk_drewN ?_ _ | refine blk_drew ?_ | refine blk_alloc ?_ _)); exact BK104.out) hb); have n1_ := Aside0.mk (below_step (by repeat (first | (with_reducible first | exact HB.out | apply below_alloc | apply pw_below_drewN | apply below_drew1 | refine below_set ?_ GE104.out) | exact HB.out)) hb); clear BK104; clear HB; have BK104 := n0_; have HB := n1_; clear n0_ n1_; (try clear hb); (try clear hb2); (try clear hk); (try clear hi); have hcz23_0 : w22.cell? ⟨gb104, 0, none⟩ = some (.string ((rd_T50 l1 x20_2).f0)) := (blk_cell BK104.out 0).trans rfl; have hcz23_1 : w22.cell? ⟨gb104, 1, none⟩ = some (.int .i64 ((rd_T50 l1 x20_2).f1)) := (blk_cell BK104.out 1).trans rfl; have hcz23_2 : w22.cell? ⟨gb104, 2, none⟩ = some (.int .i64 ((rd_T50 l1 x20_2).f2)) := (blk_cell BK104.out 2).trans rfl; have hcz23_3 : w22.cell? ⟨gb104, 3, none⟩ = some (.int .i64 ((rd_T50 l1 x20_2).f3)) := (blk_cell BK104.out 3).trans rfl; have hcz23_4 : w22.cell? ⟨gb104, 4, none⟩ = some (.string ((rd_T50 l1 x20_2).f4)) := (blk_cell BK104.out 4).trans rfl; have hfz23_0 := blk_frozen BK104.out 0; have hfz23_1 := blk_frozen BK104.out 1; have hfz23_2 := blk_frozen BK104.out 2; have hfz23_3 := blk_frozen BK104.out 3; have hfz23_4 := blk_frozen BK104.out 4) | ((with_reducible refine gate_callee (f := 29) rfl ?_); refine goesL_ (some 33) rfl rfl Tryd.func29 (by kernel_rfl) rfl #[.int .i64 ((rd_T50 l1 x20_2).f1), .string ((rd_T50 l1 x20_2).f4)] rfl (by (try simp only [List.map_toArray, List.map_cons, List.map_nil]); first | done | rfl | (simp only [List.length_drop, List.length_take]; rfl)) ?_; (with_reducible refine (impl_CheckData.calls k2 ((rd_T50 l1 x20_2).f1) ((rd_T50 l1 x20_2).f4) t106 _ A16.out (HG.out.below (by repeat (first | (with_reducible first | exact HB.out | apply below_alloc | apply pw_below_drewN | apply below_drew1 | refine below_set ?_ GE104.out) | exact HB.out)))).mono ?_); rintro e w24 ⟨rfl, hb⟩; refine ⟨_, rfl, ?_⟩; have n0_ := Aside0.mk (blk_below (g := gb104) (o := .cells #[.string ((rd_T50 l1 x20_2).f0), .int .i64 ((rd_T50 l1 x20_2).f1), .int .i64 ((rd_T50 l1 x20_2).f2), .int .i64 ((rd_T50 l1 x20_2).f3), .string ((rd_T50 l1 x20_2).f4)] 50 (0, 0)) (by (with_reducible repeat (first | refine blk_drewN ?_ _ | refine blk_drew ?_ | refine blk_alloc ?_ _)); exact BK104.out) hb); have n1_ := Aside0.mk (below_step (by repeat (first | (with_reducible first | exact HB.out | apply below_alloc | apply pw_below_drewN | apply below_drew1 | refine below_set ?_ GE104.out) | exact HB.out)) hb); clear BK104; clear HB; have BK104 := n0_; have HB := n1_; clear n0_ n1_; (try clear hb); (try clear hb2); (try clear hk); (try clear hi); have hcz25_0 : w24.cell? ⟨gb104, 0, none⟩ = some (.string ((rd_T50 l1 x20_2).f0)) := (blk_cell BK104.out 0).trans rfl; have hcz25_1 : w24.cell? ⟨gb104, 1, none⟩ = some (.int .i64 ((rd_T50 l1 x20_2).f1)) := (blk_cell BK104.out 1).trans rfl; have hcz25_2 : w24.cell? ⟨gb104, 2, none⟩ = some (.int .i64 ((rd_T50 l1 x20_2).f2)) := (blk_cell BK104.out 2).trans rfl; have hcz25_3 : w24.cell? ⟨gb104, 3, none⟩ = some (.int .i64 ((rd_T50 l1 x20_2).f3)) := (blk_cell BK104.out 3).trans rfl; have hcz25_4 : w24.cell? ⟨gb104, 4, none⟩ = some (.string ((rd_T50 l1 x20_2).f4)) := (blk_cell BK104.out 4).trans rfl; have hfz25_0 := blk_frozen BK104.out 0; have hfz25_1 := blk_frozen BK104.out 1; have hfz25_2 := blk_frozen BK104.out 2; have hfz25_3 := blk_frozen BK104.out 3; have hfz25_4 := blk_frozen BK104.out 4) | ((with_reducible refine gate_callee (f := 30) rfl ?_); refine goesL_ (some 41) rfl rfl Tryd.func30 (by kernel_rfl) rfl #[.int .i64 ((rd_T50 l1 x20_2).f1)] rfl (by (try simp only [List.map_toArray, List.map_cons, List.map_nil]); first | done | rfl | (simp only [List.length_drop, List.length_take]; rfl)) ?_; (with_reducible refine (impl_isMeta.calls ((rd_T50 l1 x20_2).f1) true _ A18.out).mono ?_); rintro e w' ⟨rfl, ⟨nd, rfl⟩⟩; refine ⟨_, rfl, ?_⟩))
            go_ret2
            exact ⟨by first | rfl | (simp [errW_none, errW_some] <;> rfl) | (simp [*, errW_none, errW_some] <;> rfl), by repeat (first | (with_reducible first | exact HB.out | apply below_alloc | apply pw_below_drewN | apply below_drew1 | refine below_set ?_ GE104.out) | exact HB.out)⟩
           · replace c19 := Bool.eq_false_iff.mpr c19
            subst c19
            have H1 : (if t106 = 0 then (if (((rd_T50 l1 x20_2).f3) ≤ 2147483647) then (impl_CheckChanges.l0 k2 a0 l1 (l1.length : Int) (wrap64 (x20_2 + 1))) else (some (1, 0))) else (some (1, 0))) = some (r1, r2) := by rw [if_neg (show ¬ (false = true) by decide)] at H; exact H
            clear H
            have H := H1
            clear H1
            by_cases c26 : t106 = 0
            · rw [if_pos c26] at H
             have c26b0 : (t106 == 0) = true := beq_iff_eq.mpr c26
             have c26b1 : (t106 != 0) = false := bne_eq_false_iff_eq.mpr c26
             clear c26
             by_cases c27 : (((rd_T50 l1 x20_2).f3) ≤ 2147483647)
             · rw [if_pos c27] at H
              have c27b0 : decide (((rd_T50 l1 x20_2).f3) ≤ 2147483647) = true := decide_eq_true c27
              clear c27
              have H' := Aside0.mk H
              clear H
              have p103 : 0 ≤ (x20_2 : Int) := of_decide_eq_true (by first | (with_reducible assumption) | assumption)
              have q103 : x20_2 < (l1.length : Int) := of_decide_eq_true (by first | (with_reducible assumption) | assumption)
              obtain ⟨ad103, e103, hx103_0, hx103_1, hx103_2, hx103_3, hx103_4⟩ := at_T50 HR1.out x20_2 p103 q103
              cases e103
              replace hx103_0 := (HB.out.cell (World.block_lt_of_cell? w _ hx103_0)).trans hx103_0
              replace hx103_1 := (HB.out.cell (World.block_lt_of_cell? w _ hx103_1)).trans hx103_1
              replace hx103_2 := (HB.out.cell (World.block_lt_of_cell? w _ hx103_2)).trans hx103_2
              replace hx103_3 := (HB.out.cell (World.block_lt_of_cell? w _ hx103_3)).trans hx103_3
              replace hx103_4 := (HB.out.cell (World.block_lt_of_cell? w _ hx103_4)).trans hx103_4
              replace p103 := eq_true p103
              replace q103 := eq_true q103
              go_wp2_with (first | ((with_reducible refine gate_dst (N := 7) rfl ?_); refine box_event ?hg (N := 7) ?hd (cs := #[.string (⟨#[]⟩ : ByteArray), .int .i64 0, .int .i64 0, .int .i64 0, .string (⟨#[]⟩ : ByteArray)]) (t := 50) ?hr ?_; (case hd => rfl); (case hg => rfl); (case hr => first | (go_simp; done) | (go_simp; rfl)); intro gb104 hg w28 hbox hb; have n0_ := Aside0.mk (below_step (by repeat (first | (with_reducible first | exact HB.out | apply below_alloc | apply pw_below_drewN | apply below_drew1) | exact HB.out)) hb); have n1_ := Aside0.mk (hbox); have n2_ := Aside0.mk ((by rw [hg]; exact (below_size (by repeat (first | (with_reducible first | exact HB.out | apply below_alloc | apply pw_below_drewN | apply below_drew1) | exact HB.out))) : w.heap.size ≤ gb104)); have n3_ := Aside0.mk ((by rw [hg]; exact (below_size (by repeat (first | (with_reducible first | exact HB.out | apply below_alloc | apply pw_below_drewN | apply below_drew1) | exact HB.out))) : w.heap.size ≤ gb104)); clear HB; have HB := n0_; have BK104 := n1_; have GW104 := n2_; have GE104 := n3_; clear n0_ n1_ n2_ n3_; clear hb hbox hg; have hcz29_0 : w28.cell? ⟨gb104, 0, none⟩ = some (.string (⟨#[]⟩ : ByteArray)) := (blk_cell BK104.out 0).trans rfl; have hcz29_1 : w28.cell? ⟨gb104, 1, none⟩ = some (.int .i64 0) := (blk_cell BK104.out 1).trans rfl; have hcz29_2 : w28.cell? ⟨gb104, 2, none⟩ = some (.int .i64 0) := (blk_cell BK104.out 2).trans rfl; have hcz29_3 : w28.cell? ⟨gb104, 3, none⟩ = some (.int .i64 0) := (blk_cell BK104.out 3).trans rfl; have hcz29_4 : w28.cell? ⟨gb104, 4, none⟩ = some (.string (⟨#[]⟩ : ByteArray)) := (blk_cell BK104.out 4).trans rfl; have hfz29_0 := blk_frozen BK104.out 0; have hfz29_1 := blk_frozen BK104.out 1; have hfz29_2 := blk_frozen BK104.out 2; have hfz29_3 := blk_frozen BK104.out 3; have hfz29_4 := blk_frozen BK104.out 4) | ((with_reducible refine gate_callee (f := 28) rfl ?_); refine goesL_ (some 27) rfl rfl Tryd.func28 (by kernel_rfl) rfl #[.string ((rd_T50 l1 x20_2).f0), .string a0] rfl (by (try simp only [List.map_toArray, List.map_cons, List.map_nil]); first | done | rfl | (simp only [List.length_drop, List.length_take]; rfl)) ?_; (with_reducible refine (impl_IsUnder.calls k2 ((rd_T50 l1 x20_2).f0) a0 true _ A14.out).mono ?_); rintro e w30 ⟨rfl, hb⟩; refine ⟨_, rfl, ?_⟩; have n0_ := Aside0.mk (blk_below (g := gb104) (o := .cells #[.string ((rd_T50 l1 x20_2).f0), .int .i64 ((rd_T50 l1 x20_2).f1), .int .i64 ((rd_T50 l1 x20_2).f2), .int .i64 ((rd_T50 l1 x20_2).f3), .string ((rd_T50 l1 x20_2).f4)] 50 (0, 0)) (by (with_reducible repeat (first | refine blk_drewN ?_ _ | refine blk_drew ?_ | refine blk_alloc ?_ _)); refine blk_put (cs := #[.string ((rd_T50 l1 x20_2).f0), .int .i64 ((rd_T50 l1 x20_2).f1), .int .i64 ((rd_T50 l1 x20_2).f2), .int .i64 ((rd_T50 l1 x20_2).f3), .string (⟨#[]⟩ : ByteArray)]) ?_ 4 _ rfl; (with_reducible repeat (first | refine blk_drewN ?_ _ | refine blk_drew ?_ | refine blk_alloc ?_ _)); refine blk_put (cs := #[.string ((rd_T50 l1 x20_2).f0), .int .i64 ((rd_T50 l1 x20_2).f1), .int .i64 ((rd_T50 l1 x20_2).f2), .int .i64 0, .string (⟨#[]⟩ : ByteArray)]) ?_ 3 _ rfl; (with_reducible repeat (first | refine blk_drewN ?_ _ | refine blk_drew ?_ | refine blk_alloc ?_ _)); refine blk_put (cs := #[.string ((rd_T50 l1 x20_2).f0), .int .i64 ((rd_T50 l1 x20_2).f1), .int .i64 0, .int .i64 0, .string (⟨#[]⟩ : ByteArray)]) ?_ 2 _ rfl; (with_reducible repeat (first | refine blk_drewN ?_ _ | refine blk_drew ?_ | refine blk_alloc ?_ _)); refine blk_put (cs := #[.string ((rd_T50 l1 x20_2).f0), .int .i64 0, .int .i64 0, .int .i64 0, .string (⟨#[]⟩ : ByteArray)]) ?_ 1 _ rfl; (with_reducible repeat (first | refine blk_drewN ?_ _ | refine blk_drew ?_ | refine blk_alloc ?_ _)); refine blk_put (cs := #[.string (⟨#[]⟩ : ByteArray), .int .i64 0, .int .i64 0, .int .i64 0, .string (⟨#[]⟩ : ByteArray)]) ?_ 0 _ rfl; (with_reducible repeat (first | refine blk_drewN ?_ _ | refine blk_drew ?_ | refine blk_alloc ?_ _)); exact BK104.out) hb); have n1_ := Aside0.mk (below_step (by repeat (first | (with_reducible first | exact HB.out | apply below_alloc | apply pw_below_drewN | apply below_drew1 | refine below_set ?_ GE104.out) | exact HB.out)) hb); clear BK104; clear HB; have BK104 := n0_; have HB := n1_; clear n0_ n1_; (try clear hb); (try clear hb2); (try clear hk); (try clear hi); have hcz31_0 : w30.cell? ⟨gb104, 0, none⟩ = some (.string ((rd_T50 l1 x20_2).f0)) := (blk_cell BK104.out 0).trans rfl; have hcz31_1 : w30.cell? ⟨gb104, 1, none⟩ = some (.int .i64 ((rd_T50 l1 x20_2).f1)) := (blk_cell BK104.out 1).trans rfl; have hcz31_2 : w30.cell? ⟨gb104, 2, none⟩ = some (.int .i64 ((rd_T50 l1 x20_2).f2)) := (blk_cell BK104.out 2).trans rfl; have hcz31_3 : w30.cell? ⟨gb104, 3, none⟩ = some (.int .i64 ((rd_T50 l1 x20_2).f3)) := (blk_cell BK104.out 3).trans rfl; have hcz31_4 : w30.cell? ⟨gb104, 4, none⟩ = some (.string ((rd_T50 l1 x20_2).f4)) := (blk_cell BK104.out 4).trans rfl; have hfz31_0 := blk_frozen BK104.out 0; have hfz31_1 := blk_frozen BK104.out 1; have hfz31_2 := blk_frozen BK104.out 2; have hfz31_3 := blk_frozen BK104.out 3; have hfz31_4 := blk_frozen BK104.out 4) | ((with_reducible refine gate_callee (f := 29) rfl ?_); refine goesL_ (some 33) rfl rfl Tryd.func29 (by kernel_rfl) rfl #[.int .i64 ((rd_T50 l1 x20_2).f1), .string ((rd_T50 l1 x20_2).f4)] rfl (by (try simp only [List.map_toArray, List.map_cons, List.map_nil]); first | done | rfl | (simp only [List.length_drop, List.length_take]; rfl)) ?_; (with_reducible refine (impl_CheckData.calls k2 ((rd_T50 l1 x20_2).f1) ((rd_T50 l1 x20_2).f4) t106 _ A16.out (HG.out.below (by repeat (first | (with_reducible first | exact HB.out | apply below_alloc | apply pw_below_drewN | apply below_drew1 | refine below_set ?_ GE104.out) | exact HB.out)))).mono ?_); rintro e w32 ⟨rfl, hb⟩; refine ⟨_, rfl, ?_⟩; have n0_ := Aside0.mk (blk_below (g := gb104) (o := .cells #[.string ((rd_T50 l1 x20_2).f0), .int .i64 ((rd_T50 l1 x20_2).f1), .int .i64 ((rd_T50 l1 x20_2).f2), .int .i64 ((rd_T50 l1 x20_2).f3), .string ((rd_T50 l1 x20_2).f4)] 50 (0, 0)) (by (with_reducible repeat (first | refine blk_drewN ?_ _ | refine blk_drew ?_ | refine blk_alloc ?_ _)); exact BK104.out) hb); have n1_ := Aside0.mk (below_step (by repeat (first | (with_reducible first | exact HB.out | apply below_alloc | apply pw_below_drewN | apply below_drew1 | refine below_set ?_ GE104.out) | exact HB.out)) hb); clear BK104; clear HB; have BK104 := n0_; have HB := n1_; clear n0_ n1_; (try clear hb); (try clear hb2); (try clear hk); (try clear hi); have hcz33_0 : w32.cell? ⟨gb104, 0, none⟩ = some (.string ((rd_T50 l1 x20_2).f0)) := (blk_cell BK104.out 0).trans rfl; have hcz33_1 : w32.cell? ⟨gb104, 1, none⟩ = some (.int .i64 ((rd_T50 l1 x20_2).f1)) := (blk_cell BK104.out 1).trans rfl; have hcz33_2 : w32.cell? ⟨gb104, 2, none⟩ = some (.int .i64 ((rd_T50 l1 x20_2).f2)) := (blk_cell BK104.out 2).trans rfl; have hcz33_3 : w32.cell? ⟨gb104, 3, none⟩ = some (.int .i64 ((rd_T50 l1 x20_2).f3)) := (blk_cell BK104.out 3).trans rfl; have hcz33_4 : w32.cell? ⟨gb104, 4, none⟩ = some (.string ((rd_T50 l1 x20_2).f4)) := (blk_cell BK104.out 4).trans rfl; have hfz33_0 := blk_frozen BK104.out 0; have hfz33_1 := blk_frozen BK104.out 1; have hfz33_2 := blk_frozen BK104.out 2; have hfz33_3 := blk_frozen BK104.out 3; have hfz33_4 := blk_frozen BK104.out 4) | ((with_reducible refine gate_callee (f := 30) rfl ?_); refine goesL_ (some 41) rfl rfl Tryd.func30 (by kernel_rfl) rfl #[.int .i64 ((rd_T50 l1 x20_2).f1)] rfl (by (try simp only [List.map_toArray, List.map_cons, List.map_nil]); first | done | rfl | (simp only [List.length_drop, List.length_take]; rfl)) ?_; (with_reducible refine (impl_isMeta.calls ((rd_T50 l1 x20_2).f1) false _ A18.out).mono ?_); rintro e w' ⟨rfl, ⟨nd, rfl⟩⟩; refine ⟨_, rfl, ?_⟩))
              go_roundg k2
              case measure => have := HJ2.out; have := HK2.out; omega
              case rel => exact ⟨(wrap64 (x20_2 + 1)), (by first | rfl | (simp; done) | (simp [*]; done)), H', ⟨by have := HJ2.out; have := HK2.out; omega⟩, ⟨by repeat (first | (with_reducible first | exact HB.out | apply below_alloc | apply pw_below_drewN | apply below_drew1 | refine below_set ?_ GE104.out) | exact HB.out)⟩⟩
             · rw [if_neg c27] at H
              have c27b0 : decide (((rd_T50 l1 x20_2).f3) ≤ 2147483647) = false := decide_eq_false c27
              clear c27
              simp only [Option.some.injEq, Prod.mk.injEq] at H
              obtain ⟨rfl, rfl⟩ := H
              have p103 : 0 ≤ (x20_2 : Int) := of_decide_eq_true (by first | (with_reducible assumption) | assumption)
              have q103 : x20_2 < (l1.length : Int) := of_decide_eq_true (by first | (with_reducible assumption) | assumption)
              obtain ⟨ad103, e103, hx103_0, hx103_1, hx103_2, hx103_3, hx103_4⟩ := at_T50 HR1.out x20_2 p103 q103
              cases e103
              replace hx103_0 := (HB.out.cell (World.block_lt_of_cell? w _ hx103_0)).trans hx103_0
              replace hx103_1 := (HB.out.cell (World.block_lt_of_cell? w _ hx103_1)).trans hx103_1
              replace hx103_2 := (HB.out.cell (World.block_lt_of_cell? w _ hx103_2)).trans hx103_2
              replace hx103_3 := (HB.out.cell (World.block_lt_of_cell? w _ hx103_3)).trans hx103_3
              replace hx103_4 := (HB.out.cell (World.block_lt_of_cell? w _ hx103_4)).trans hx103_4
              replace p103 := eq_true p103
              replace q103 := eq_true q103
              go_wp2_with (first | ((with_reducible refine gate_dst (N := 7) rfl ?_); refine box_event ?hg (N := 7) ?hd (cs := #[.string (⟨#[]⟩ : ByteArray), .int .i64 0, .int .i64 0, .int .i64 0, .string (⟨#[]⟩ : ByteArray)]) (t := 50) ?hr ?_; (case hd => rfl); (case hg => rfl); (case hr => first | (go_simp; done) | (go_simp; rfl)); intro gb104 hg w34 hbox hb; have n0_ := Aside0.mk (below_step (by repeat (first | (with_reducible first | exact HB.out | apply below_alloc | apply pw_below_drewN | apply below_drew1) | exact HB.out)) hb); have n1_ := Aside0.mk (hbox); have n2_ := Aside0.mk ((by rw [hg]; exact (below_size (by repeat (first | (with_reducible first | exact HB.out | apply below_alloc | apply pw_below_drewN | apply below_drew1) | exact HB.out))) : w.heap.size ≤ gb104)); have n3_ := Aside0.mk ((by rw [hg]; exact (below_size (by repeat (first | (with_reducible first | exact HB.out | apply below_alloc | apply pw_below_drewN | apply below_drew1) | exact HB.out))) : w.heap.size ≤ gb104)); clear HB; have HB := n0_; have BK104 := n1_; have GW104 := n2_; have GE104 := n3_; clear n0_ n1_ n2_ n3_; clear hb hbox hg; have hcz35_0 : w34.cell? ⟨gb104, 0, none⟩ = some (.string (⟨#[]⟩ : ByteArray)) := (blk_cell BK104.out 0).trans rfl; have hcz35_1 : w34.cell? ⟨gb104, 1, none⟩ = some (.int .i64 0) := (blk_cell BK104.out 1).trans rfl; have hcz35_2 : w34.cell? ⟨gb104, 2, none⟩ = some (.int .i64 0) := (blk_cell BK104.out 2).trans rfl; have hcz35_3 : w34.cell? ⟨gb104, 3, none⟩ = some (.int .i64 0) := (blk_cell BK104.out 3).trans rfl; have hcz35_4 : w34.cell? ⟨gb104, 4, none⟩ = some (.string (⟨#[]⟩ : ByteArray)) := (blk_cell BK104.out 4).trans rfl; have hfz35_0 := blk_frozen BK104.out 0; have hfz35_1 := blk_frozen BK104.out 1; have hfz35_2 := blk_frozen BK104.out 2; have hfz35_3 := blk_frozen BK104.out 3; have hfz35_4 := blk_frozen BK104.out 4) | ((with_reducible refine gate_callee (f := 28) rfl ?_); refine goesL_ (some 27) rfl rfl Tryd.func28 (by kernel_rfl) rfl #[.string ((rd_T50 l1 x20_2).f0), .string a0] rfl (by (try simp only [List.map_toArray, List.map_cons, List.map_nil]); first | done | rfl | (simp only [List.length_drop, List.length_take]; rfl)) ?_; (with_reducible refine (impl_IsUnder.calls k2 ((rd_T50 l1 x20_2).f0) a0 true _ A14.out).mono ?_); rintro e w36 ⟨rfl, hb⟩; refine ⟨_, rfl, ?_⟩; have n0_ := Aside0.mk (blk_below (g := gb104) (o := .cells #[.string ((rd_T50 l1 x20_2).f0), .int .i64 ((rd_T50 l1 x20_2).f1), .int .i64 ((rd_T50 l1 x20_2).f2), .int .i64 ((rd_T50 l1 x20_2).f3), .string ((rd_T50 l1 x20_2).f4)] 50 (0, 0)) (by (with_reducible repeat (first | refine blk_drewN ?_ _ | refine blk_drew ?_ | refine blk_alloc ?_ _)); refine blk_put (cs := #[.string ((rd_T50 l1 x20_2).f0), .int .i64 ((rd_T50 l1 x20_2).f1), .int .i64 ((rd_T50 l1 x20_2).f2), .int .i64 ((rd_T50 l1 x20_2).f3), .string (⟨#[]⟩ : ByteArray)]) ?_ 4 _ rfl; (with_reducible repeat (first | refine blk_drewN ?_ _ | refine blk_drew ?_ | refine blk_alloc ?_ _)); refine blk_put (cs := #[.string ((rd_T50 l1 x20_2).f0), .int .i64 ((rd_T50 l1 x20_2).f1), .int .i64 ((rd_T50 l1 x20_2).f2), .int .i64 0, .string (⟨#[]⟩ : ByteArray)]) ?_ 3 _ rfl; (with_reducible repeat (first | refine blk_drewN ?_ _ | refine blk_drew ?_ | refine blk_alloc ?_ _)); refine blk_put (cs := #[.string ((rd_T50 l1 x20_2).f0), .int .i64 ((rd_T50 l1 x20_2).f1), .int .i64 0, .int .i64 0, .string (⟨#[]⟩ : ByteArray)]) ?_ 2 _ rfl; (with_reducible repeat (first | refine blk_drewN ?_ _ | refine blk_drew ?_ | refine blk_alloc ?_ _)); refine blk_put (cs := #[.string ((rd_T50 l1 x20_2).f0), .int .i64 0, .int .i64 0, .int .i64 0, .string (⟨#[]⟩ : ByteArray)]) ?_ 1 _ rfl; (with_reducible repeat (first | refine blk_drewN ?_ _ | refine blk_drew ?_ | refine blk_alloc ?_ _)); refine blk_put (cs := #[.string (⟨#[]⟩ : ByteArray), .int .i64 0, .int .i64 0, .int .i64 0, .string (⟨#[]⟩ : ByteArray)]) ?_ 0 _ rfl; (with_reducible repeat (first | refine blk_drewN ?_ _ | refine blk_drew ?_ | refine blk_alloc ?_ _)); exact BK104.out) hb); have n1_ := Aside0.mk (below_step (by repeat (first | (with_reducible first | exact HB.out | apply below_alloc | apply pw_below_drewN | apply below_drew1 | refine below_set ?_ GE104.out) | exact HB.out)) hb); clear BK104; clear HB; have BK104 := n0_; have HB := n1_; clear n0_ n1_; (try clear hb); (try clear hb2); (try clear hk); (try clear hi); have hcz37_0 : w36.cell? ⟨gb104, 0, none⟩ = some (.string ((rd_T50 l1 x20_2).f0)) := (blk_cell BK104.out 0).trans rfl; have hcz37_1 : w36.cell? ⟨gb104, 1, none⟩ = some (.int .i64 ((rd_T50 l1 x20_2).f1)) := (blk_cell BK104.out 1).trans rfl; have hcz37_2 : w36.cell? ⟨gb104, 2, none⟩ = some (.int .i64 ((rd_T50 l1 x20_2).f2)) := (blk_cell BK104.out 2).trans rfl; have hcz37_3 : w36.cell? ⟨gb104, 3, none⟩ = some (.int .i64 ((rd_T50 l1 x20_2).f3)) := (blk_cell BK104.out 3).trans rfl; have hcz37_4 : w36.cell? ⟨gb104, 4, none⟩ = some (.string ((rd_T50 l1 x20_2).f4)) := (blk_cell BK104.out 4).trans rfl; have hfz37_0 := blk_frozen BK104.out 0; have hfz37_1 := blk_frozen BK104.out 1; have hfz37_2 := blk_frozen BK104.out 2; have hfz37_3 := blk_frozen BK104.out 3; have hfz37_4 := blk_frozen BK104.out 4) | ((with_reducible refine gate_callee (f := 29) rfl ?_); refine goesL_ (some 33) rfl rfl Tryd.func29 (by kernel_rfl) rfl #[.int .i64 ((rd_T50 l1 x20_2).f1), .string ((rd_T50 l1 x20_2).f4)] rfl (by (try simp only [List.map_toArray, List.map_cons, List.map_nil]); first | done | rfl | (simp only [List.length_drop, List.length_take]; rfl)) ?_; (with_reducible refine (impl_CheckData.calls k2 ((rd_T50 l1 x20_2).f1) ((rd_T50 l1 x20_2).f4) t106 _ A16.out (HG.out.below (by repeat (first | (with_reducible first | exact HB.out | apply below_alloc | apply pw_below_drewN | apply below_drew1 | refine below_set ?_ GE104.out) | exact HB.out)))).mono ?_); rintro e w38 ⟨rfl, hb⟩; refine ⟨_, rfl, ?_⟩; have n0_ := Aside0.mk (blk_below (g := gb104) (o := .cells #[.string ((rd_T50 l1 x20_2).f0), .int .i64 ((rd_T50 l1 x20_2).f1), .int .i64 ((rd_T50 l1 x20_2).f2), .int .i64 ((rd_T50 l1 x20_2).f3), .string ((rd_T50 l1 x20_2).f4)] 50 (0, 0)) (by (with_reducible repeat (first | refine blk_drewN ?_ _ | refine blk_drew ?_ | refine blk_alloc ?_ _)); exact BK104.out) hb); have n1_ := Aside0.mk (below_step (by repeat (first | (with_reducible first | exact HB.out | apply below_alloc | apply pw_below_drewN | apply below_drew1 | refine below_set ?_ GE104.out) | exact HB.out)) hb); clear BK104; clear HB; have BK104 := n0_; have HB := n1_; clear n0_ n1_; (try clear hb); (try clear hb2); (try clear hk); (try clear hi); have hcz39_0 : w38.cell? ⟨gb104, 0, none⟩ = some (.string ((rd_T50 l1 x20_2).f0)) := (blk_cell BK104.out 0).trans rfl; have hcz39_1 : w38.cell? ⟨gb104, 1, none⟩ = some (.int .i64 ((rd_T50 l1 x20_2).f1)) := (blk_cell BK104.out 1).trans rfl; have hcz39_2 : w38.cell? ⟨gb104, 2, none⟩ = some (.int .i64 ((rd_T50 l1 x20_2).f2)) := (blk_cell BK104.out 2).trans rfl; have hcz39_3 : w38.cell? ⟨gb104, 3, none⟩ = some (.int .i64 ((rd_T50 l1 x20_2).f3)) := (blk_cell BK104.out 3).trans rfl; have hcz39_4 : w38.cell? ⟨gb104, 4, none⟩ = some (.string ((rd_T50 l1 x20_2).f4)) := (blk_cell BK104.out 4).trans rfl; have hfz39_0 := blk_frozen BK104.out 0; have hfz39_1 := blk_frozen BK104.out 1; have hfz39_2 := blk_frozen BK104.out 2; have hfz39_3 := blk_frozen BK104.out 3; have hfz39_4 := blk_frozen BK104.out 4) | ((with_reducible refine gate_callee (f := 30) rfl ?_); refine goesL_ (some 41) rfl rfl Tryd.func30 (by kernel_rfl) rfl #[.int .i64 ((rd_T50 l1 x20_2).f1)] rfl (by (try simp only [List.map_toArray, List.map_cons, List.map_nil]); first | done | rfl | (simp only [List.length_drop, List.length_take]; rfl)) ?_; (with_reducible refine (impl_isMeta.calls ((rd_T50 l1 x20_2).f1) false _ A18.out).mono ?_); rintro e w' ⟨rfl, ⟨nd, rfl⟩⟩; refine ⟨_, rfl, ?_⟩))
              go_ret2
              exact ⟨by first | rfl | (simp [errW_none, errW_some] <;> rfl) | (simp [*, errW_none, errW_some] <;> rfl), by repeat (first | (with_reducible first | exact HB.out | apply below_alloc | apply pw_below_drewN | apply below_drew1 | refine below_set ?_ GE104.out) | exact HB.out)⟩
            · rw [if_neg c26] at H
             have c26b0 : (t106 == 0) = false := beq_eq_false_iff_ne.mpr c26
             have c26b1 : (t106 != 0) = true := bne_iff_ne.mpr c26
             simp only [Option.some.injEq, Prod.mk.injEq] at H
             obtain ⟨rfl, rfl⟩ := H
             have p103 : 0 ≤ (x20_2 : Int) := of_decide_eq_true (by first | (with_reducible assumption) | assumption)
             have q103 : x20_2 < (l1.length : Int) := of_decide_eq_true (by first | (with_reducible assumption) | assumption)
             obtain ⟨ad103, e103, hx103_0, hx103_1, hx103_2, hx103_3, hx103_4⟩ := at_T50 HR1.out x20_2 p103 q103
             cases e103
             replace hx103_0 := (HB.out.cell (World.block_lt_of_cell? w _ hx103_0)).trans hx103_0
             replace hx103_1 := (HB.out.cell (World.block_lt_of_cell? w _ hx103_1)).trans hx103_1
             replace hx103_2 := (HB.out.cell (World.block_lt_of_cell? w _ hx103_2)).trans hx103_2
             replace hx103_3 := (HB.out.cell (World.block_lt_of_cell? w _ hx103_3)).trans hx103_3
             replace hx103_4 := (HB.out.cell (World.block_lt_of_cell? w _ hx103_4)).trans hx103_4
             replace p103 := eq_true p103
             replace q103 := eq_true q103
             go_wp2_with (first | ((with_reducible refine gate_dst (N := 7) rfl ?_); refine box_event ?hg (N := 7) ?hd (cs := #[.string (⟨#[]⟩ : ByteArray), .int .i64 0, .int .i64 0, .int .i64 0, .string (⟨#[]⟩ : ByteArray)]) (t := 50) ?hr ?_; (case hd => rfl); (case hg => rfl); (case hr => first | (go_simp; done) | (go_simp; rfl)); intro gb104 hg w40 hbox hb; have n0_ := Aside0.mk (below_step (by repeat (first | (with_reducible first | exact HB.out | apply below_alloc | apply pw_below_drewN | apply below_drew1) | exact HB.out)) hb); have n1_ := Aside0.mk (hbox); have n2_ := Aside0.mk ((by rw [hg]; exact (below_size (by repeat (first | (with_reducible first | exact HB.out | apply below_alloc | apply pw_below_drewN | apply below_drew1) | exact HB.out))) : w.heap.size ≤ gb104)); have n3_ := Aside0.mk ((by rw [hg]; exact (below_size (by repeat (first | (with_reducible first | exact HB.out | apply below_alloc | apply pw_below_drewN | apply below_drew1) | exact HB.out))) : w.heap.size ≤ gb104)); clear HB; have HB := n0_; have BK104 := n1_; have GW104 := n2_; have GE104 := n3_; clear n0_ n1_ n2_ n3_; clear hb hbox hg; have hcz41_0 : w40.cell? ⟨gb104, 0, none⟩ = some (.string (⟨#[]⟩ : ByteArray)) := (blk_cell BK104.out 0).trans rfl; have hcz41_1 : w40.cell? ⟨gb104, 1, none⟩ = some (.int .i64 0) := (blk_cell BK104.out 1).trans rfl; have hcz41_2 : w40.cell? ⟨gb104, 2, none⟩ = some (.int .i64 0) := (blk_cell BK104.out 2).trans rfl; have hcz41_3 : w40.cell? ⟨gb104, 3, none⟩ = some (.int .i64 0) := (blk_cell BK104.out 3).trans rfl; have hcz41_4 : w40.cell? ⟨gb104, 4, none⟩ = some (.string (⟨#[]⟩ : ByteArray)) := (blk_cell BK104.out 4).trans rfl; have hfz41_0 := blk_frozen BK104.out 0; have hfz41_1 := blk_frozen BK104.out 1; have hfz41_2 := blk_frozen BK104.out 2; have hfz41_3 := blk_frozen BK104.out 3; have hfz41_4 := blk_frozen BK104.out 4) | ((with_reducible refine gate_callee (f := 28) rfl ?_); refine goesL_ (some 27) rfl rfl Tryd.func28 (by kernel_rfl) rfl #[.string ((rd_T50 l1 x20_2).f0), .string a0] rfl (by (try simp only [List.map_toArray, List.map_cons, List.map_nil]); first | done | rfl | (simp only [List.length_drop, List.length_take]; rfl)) ?_; (with_reducible refine (impl_IsUnder.calls k2 ((rd_T50 l1 x20_2).f0) a0 true _ A14.out).mono ?_); rintro e w42 ⟨rfl, hb⟩; refine ⟨_, rfl, ?_⟩; have n0_ := Aside0.mk (blk_below (g := gb104) (o := .cells #[.string ((rd_T50 l1 x20_2).f0), .int .i64 ((rd_T50 l1 x20_2).f1), .int .i64 ((rd_T50 l1 x20_2).f2), .int .i64 ((rd_T50 l1 x20_2).f3), .string ((rd_T50 l1 x20_2).f4)] 50 (0, 0)) (by (with_reducible repeat (first | refine blk_drewN ?_ _ | refine blk_drew ?_ | refine blk_alloc ?_ _)); refine blk_put (cs := #[.string ((rd_T50 l1 x20_2).f0), .int .i64 ((rd_T50 l1 x20_2).f1), .int .i64 ((rd_T50 l1 x20_2).f2), .int .i64 ((rd_T50 l1 x20_2).f3), .string (⟨#[]⟩ : ByteArray)]) ?_ 4 _ rfl; (with_reducible repeat (first | refine blk_drewN ?_ _ | refine blk_drew ?_ | refine blk_alloc ?_ _)); refine blk_put (cs := #[.string ((rd_T50 l1 x20_2).f0), .int .i64 ((rd_T50 l1 x20_2).f1), .int .i64 ((rd_T50 l1 x20_2).f2), .int .i64 0, .string (⟨#[]⟩ : ByteArray)]) ?_ 3 _ rfl; (with_reducible repeat (first | refine blk_drewN ?_ _ | refine blk_drew ?_ | refine blk_alloc ?_ _)); refine blk_put (cs := #[.string ((rd_T50 l1 x20_2).f0), .int .i64 ((rd_T50 l1 x20_2).f1), .int .i64 0, .int .i64 0, .string (⟨#[]⟩ : ByteArray)]) ?_ 2 _ rfl; (with_reducible repeat (first | refine blk_drewN ?_ _ | refine blk_drew ?_ | refine blk_alloc ?_ _)); refine blk_put (cs := #[.string ((rd_T50 l1 x20_2).f0), .int .i64 0, .int .i64 0, .int .i64 0, .string (⟨#[]⟩ : ByteArray)]) ?_ 1 _ rfl; (with_reducible repeat (first | refine blk_drewN ?_ _ | refine blk_drew ?_ | refine blk_alloc ?_ _)); refine blk_put (cs := #[.string (⟨#[]⟩ : ByteArray), .int .i64 0, .int .i64 0, .int .i64 0, .string (⟨#[]⟩ : ByteArray)]) ?_ 0 _ rfl; (with_reducible repeat (first | refine blk_drewN ?_ _ | refine blk_drew ?_ | refine blk_alloc ?_ _)); exact BK104.out) hb); have n1_ := Aside0.mk (below_step (by repeat (first | (with_reducible first | exact HB.out | apply below_alloc | apply pw_below_drewN | apply below_drew1 | refine below_set ?_ GE104.out) | exact HB.out)) hb); clear BK104; clear HB; have BK104 := n0_; have HB := n1_; clear n0_ n1_; (try clear hb); (try clear hb2); (try clear hk); (try clear hi); have hcz43_0 : w42.cell? ⟨gb104, 0, none⟩ = some (.string ((rd_T50 l1 x20_2).f0)) := (blk_cell BK104.out 0).trans rfl; have hcz43_1 : w42.cell? ⟨gb104, 1, none⟩ = some (.int .i64 ((rd_T50 l1 x20_2).f1)) := (blk_cell BK104.out 1).trans rfl; have hcz43_2 : w42.cell? ⟨gb104, 2, none⟩ = some (.int .i64 ((rd_T50 l1 x20_2).f2)) := (blk_cell BK104.out 2).trans rfl; have hcz43_3 : w42.cell? ⟨gb104, 3, none⟩ = some (.int .i64 ((rd_T50 l1 x20_2).f3)) := (blk_cell BK104.out 3).trans rfl; have hcz43_4 : w42.cell? ⟨gb104, 4, none⟩ = some (.string ((rd_T50 l1 x20_2).f4)) := (blk_cell BK104.out 4).trans rfl; have hfz43_0 := blk_frozen BK104.out 0; have hfz43_1 := blk_frozen BK104.out 1; have hfz43_2 := blk_frozen BK104.out 2; have hfz43_3 := blk_frozen BK104.out 3; have hfz43_4 := blk_frozen BK104.out 4) | ((with_reducible refine gate_callee (f := 29) rfl ?_); refine goesL_ (some 33) rfl rfl Tryd.func29 (by kernel_rfl) rfl #[.int .i64 ((rd_T50 l1 x20_2).f1), .string ((rd_T50 l1 x20_2).f4)] rfl (by (try simp only [List.map_toArray, List.map_cons, List.map_nil]); first | done | rfl | (simp only [List.length_drop, List.length_take]; rfl)) ?_; (with_reducible refine (impl_CheckData.calls k2 ((rd_T50 l1 x20_2).f1) ((rd_T50 l1 x20_2).f4) t106 _ A16.out (HG.out.below (by repeat (first | (with_reducible first | exact HB.out | apply below_alloc | apply pw_below_drewN | apply below_drew1 | refine below_set ?_ GE104.out) | exact HB.out)))).mono ?_); rintro e w44 ⟨rfl, hb⟩; refine ⟨_, rfl, ?_⟩; have n0_ := Aside0.mk (blk_below (g := gb104) (o := .cells #[.string ((rd_T50 l1 x20_2).f0), .int .i64 ((rd_T50 l1 x20_2).f1), .int .i64 ((rd_T50 l1 x20_2).f2), .int .i64 ((rd_T50 l1 x20_2).f3), .string ((rd_T50 l1 x20_2).f4)] 50 (0, 0)) (by (with_reducible repeat (first | refine blk_drewN ?_ _ | refine blk_drew ?_ | refine blk_alloc ?_ _)); exact BK104.out) hb); have n1_ := Aside0.mk (below_step (by repeat (first | (with_reducible first | exact HB.out | apply below_alloc | apply pw_below_drewN | apply below_drew1 | refine below_set ?_ GE104.out) | exact HB.out)) hb); clear BK104; clear HB; have BK104 := n0_; have HB := n1_; clear n0_ n1_; (try clear hb); (try clear hb2); (try clear hk); (try clear hi); have hcz45_0 : w44.cell? ⟨gb104, 0, none⟩ = some (.string ((rd_T50 l1 x20_2).f0)) := (blk_cell BK104.out 0).trans rfl; have hcz45_1 : w44.cell? ⟨gb104, 1, none⟩ = some (.int .i64 ((rd_T50 l1 x20_2).f1)) := (blk_cell BK104.out 1).trans rfl; have hcz45_2 : w44.cell? ⟨gb104, 2, none⟩ = some (.int .i64 ((rd_T50 l1 x20_2).f2)) := (blk_cell BK104.out 2).trans rfl; have hcz45_3 : w44.cell? ⟨gb104, 3, none⟩ = some (.int .i64 ((rd_T50 l1 x20_2).f3)) := (blk_cell BK104.out 3).trans rfl; have hcz45_4 : w44.cell? ⟨gb104, 4, none⟩ = some (.string ((rd_T50 l1 x20_2).f4)) := (blk_cell BK104.out 4).trans rfl; have hfz45_0 := blk_frozen BK104.out 0; have hfz45_1 := blk_frozen BK104.out 1; have hfz45_2 := blk_frozen BK104.out 2; have hfz45_3 := blk_frozen BK104.out 3; have hfz45_4 := blk_frozen BK104.out 4) | ((with_reducible refine gate_callee (f := 30) rfl ?_); refine goesL_ (some 41) rfl rfl Tryd.func30 (by kernel_rfl) rfl #[.int .i64 ((rd_T50 l1 x20_2).f1)] rfl (by (try simp only [List.map_toArray, List.map_cons, List.map_nil]); first | done | rfl | (simp only [List.length_drop, List.length_take]; rfl)) ?_; (with_reducible refine (impl_isMeta.calls ((rd_T50 l1 x20_2).f1) false _ A18.out).mono ?_); rintro e w' ⟨rfl, ⟨nd, rfl⟩⟩; refine ⟨_, rfl, ?_⟩))
             go_ret2
             exact ⟨by first | rfl | (simp [errW_none, errW_some] <;> rfl) | (simp [*, errW_none, errW_some] <;> rfl), by repeat (first | (with_reducible first | exact HB.out | apply below_alloc | apply pw_below_drewN | apply below_drew1 | refine below_set ?_ GE104.out) | exact HB.out)⟩
          · rw [if_neg c17] at H
           have c17b0 : (((rd_T50 l1 x20_2).f2) == 1) = false := beq_eq_false_iff_ne.mpr c17
           have c17b1 : (((rd_T50 l1 x20_2).f2) != 1) = true := bne_iff_ne.mpr c17
           by_cases c46 : ((rd_T50 l1 x20_2).f2) = 255
           · rw [if_pos c46] at H
            have c46b0 : (((rd_T50 l1 x20_2).f2) == 255) = true := beq_iff_eq.mpr c46
            have c46b1 : (((rd_T50 l1 x20_2).f2) != 255) = false := bne_eq_false_iff_eq.mpr c46
            clear c46
            by_cases c47 : ((rd_T50 l1 x20_2).f3) = 0
            · rw [if_pos c47] at H
             have c47b0 : (((rd_T50 l1 x20_2).f3) == 0) = true := beq_iff_eq.mpr c47
             have c47b1 : (((rd_T50 l1 x20_2).f3) != 0) = false := bne_eq_false_iff_eq.mpr c47
             clear c47
             by_cases c48 : ((rd_T50 l1 x20_2).f4).toList = ([] : List UInt8)
             · rw [if_pos c48] at H
              have c48b0 : (((rd_T50 l1 x20_2).f4).toList == ([] : List UInt8)) = true := beq_iff_eq.mpr c48
              have c48b1 : (((rd_T50 l1 x20_2).f4).toList != ([] : List UInt8)) = false := bne_eq_false_iff_eq.mpr c48
              clear c48
              replace H := Option.bind_eq_some_iff.mp H
              obtain ⟨t108, A490, H⟩ := H
              replace H : (if t108 = true then (if (((rd_T50 l1 x20_2).f1) = 255) then (impl_CheckChanges.l0 k2 a0 l1 (l1.length : Int) (wrap64 (x20_2 + 1))) else (some (1, 0))) else (impl_CheckChanges.l0 k2 a0 l1 (l1.length : Int) (wrap64 (x20_2 + 1)))) = some (r1, r2) := H
              have A49 := Aside0.mk A490
              clear A490
              by_cases c50 : t108 = true
              · subst c50
               have H1 : (if (((rd_T50 l1 x20_2).f1) = 255) then (impl_CheckChanges.l0 k2 a0 l1 (l1.length : Int) (wrap64 (x20_2 + 1))) else (some (1, 0))) = some (r1, r2) := by rw [if_pos rfl] at H; exact H
               clear H
               have H := H1
               clear H1
               by_cases c51 : (((rd_T50 l1 x20_2).f1) = 255)
               · rw [if_pos c51] at H
                have c51b0 : (((rd_T50 l1 x20_2).f1) == 255) = true := beq_iff_eq.mpr c51
                have c51b1 : (((rd_T50 l1 x20_2).f1) != 255) = false := bne_eq_false_iff_eq.mpr c51
                clear c51
                have H' := Aside0.mk H
                clear H
                have p103 : 0 ≤ (x20_2 : Int) := of_decide_eq_true (by first | (with_reducible assumption) | assumption)
                have q103 : x20_2 < (l1.length : Int) := of_decide_eq_true (by first | (with_reducible assumption) | assumption)
                obtain ⟨ad103, e103, hx103_0, hx103_1, hx103_2, hx103_3, hx103_4⟩ := at_T50 HR1.out x20_2 p103 q103
                cases e103
                replace hx103_0 := (HB.out.cell (World.block_lt_of_cell? w _ hx103_0)).trans hx103_0
                replace hx103_1 := (HB.out.cell (World.block_lt_of_cell? w _ hx103_1)).trans hx103_1
                replace hx103_2 := (HB.out.cell (World.block_lt_of_cell? w _ hx103_2)).trans hx103_2
                replace hx103_3 := (HB.out.cell (World.block_lt_of_cell? w _ hx103_3)).trans hx103_3
                replace hx103_4 := (HB.out.cell (World.block_lt_of_cell? w _ hx103_4)).trans hx103_4
                replace p103 := eq_true p103
                replace q103 := eq_true q103
                go_wp2_with (first | ((with_reducible refine gate_dst (N := 7) rfl ?_); refine box_event ?hg (N := 7) ?hd (cs := #[.string (⟨#[]⟩ : ByteArray), .int .i64 0, .int .i64 0, .int .i64 0, .string (⟨#[]⟩ : ByteArray)]) (t := 50) ?hr ?_; (case hd => rfl); (case hg => rfl); (case hr => first | (go_simp; done) | (go_simp; rfl)); intro gb104 hg w52 hbox hb; have n0_ := Aside0.mk (below_step (by repeat (first | (with_reducible first | exact HB.out | apply below_alloc | apply pw_below_drewN | apply below_drew1) | exact HB.out)) hb); have n1_ := Aside0.mk (hbox); have n2_ := Aside0.mk ((by rw [hg]; exact (below_size (by repeat (first | (with_reducible first | exact HB.out | apply below_alloc | apply pw_below_drewN | apply below_drew1) | exact HB.out))) : w.heap.size ≤ gb104)); have n3_ := Aside0.mk ((by rw [hg]; exact (below_size (by repeat (first | (with_reducible first | exact HB.out | apply below_alloc | apply pw_below_drewN | apply below_drew1) | exact HB.out))) : w.heap.size ≤ gb104)); clear HB; have HB := n0_; have BK104 := n1_; have GW104 := n2_; have GE104 := n3_; clear n0_ n1_ n2_ n3_; clear hb hbox hg; have hcz53_0 : w52.cell? ⟨gb104, 0, none⟩ = some (.string (⟨#[]⟩ : ByteArray)) := (blk_cell BK104.out 0).trans rfl; have hcz53_1 : w52.cell? ⟨gb104, 1, none⟩ = some (.int .i64 0) := (blk_cell BK104.out 1).trans rfl; have hcz53_2 : w52.cell? ⟨gb104, 2, none⟩ = some (.int .i64 0) := (blk_cell BK104.out 2).trans rfl; have hcz53_3 : w52.cell? ⟨gb104, 3, none⟩ = some (.int .i64 0) := (blk_cell BK104.out 3).trans rfl; have hcz53_4 : w52.cell? ⟨gb104, 4, none⟩ = some (.string (⟨#[]⟩ : ByteArray)) := (blk_cell BK104.out 4).trans rfl; have hfz53_0 := blk_frozen BK104.out 0; have hfz53_1 := blk_frozen BK104.out 1; have hfz53_2 := blk_frozen BK104.out 2; have hfz53_3 := blk_frozen BK104.out 3; have hfz53_4 := blk_frozen BK104.out 4) | ((with_reducible refine gate_callee (f := 28) rfl ?_); refine goesL_ (some 27) rfl rfl Tryd.func28 (by kernel_rfl) rfl #[.string ((rd_T50 l1 x20_2).f0), .string a0] rfl (by (try simp only [List.map_toArray, List.map_cons, List.map_nil]); first | done | rfl | (simp only [List.length_drop, List.length_take]; rfl)) ?_; (with_reducible refine (impl_IsUnder.calls k2 ((rd_T50 l1 x20_2).f0) a0 true _ A14.out).mono ?_); rintro e w54 ⟨rfl, hb⟩; refine ⟨_, rfl, ?_⟩; have n0_ := Aside0.mk (blk_below (g := gb104) (o := .cells #[.string ((rd_T50 l1 x20_2).f0), .int .i64 ((rd_T50 l1 x20_2).f1), .int .i64 ((rd_T50 l1 x20_2).f2), .int .i64 ((rd_T50 l1 x20_2).f3), .string ((rd_T50 l1 x20_2).f4)] 50 (0, 0)) (by (with_reducible repeat (first | refine blk_drewN ?_ _ | refine blk_drew ?_ | refine blk_alloc ?_ _)); refine blk_put (cs := #[.string ((rd_T50 l1 x20_2).f0), .int .i64 ((rd_T50 l1 x20_2).f1), .int .i64 ((rd_T50 l1 x20_2).f2), .int .i64 ((rd_T50 l1 x20_2).f3), .string (⟨#[]⟩ : ByteArray)]) ?_ 4 _ rfl; (with_reducible repeat (first | refine blk_drewN ?_ _ | refine blk_drew ?_ | refine blk_alloc ?_ _)); refine blk_put (cs := #[.string ((rd_T50 l1 x20_2).f0), .int .i64 ((rd_T50 l1 x20_2).f1), .int .i64 ((rd_T50 l1 x20_2).f2), .int .i64 0, .string (⟨#[]⟩ : ByteArray)]) ?_ 3 _ rfl; (with_reducible repeat (first | refine blk_drewN ?_ _ | refine blk_drew ?_ | refine blk_alloc ?_ _)); refine blk_put (cs := #[.string ((rd_T50 l1 x20_2).f0), .int .i64 ((rd_T50 l1 x20_2).f1), .int .i64 0, .int .i64 0, .string (⟨#[]⟩ : ByteArray)]) ?_ 2 _ rfl; (with_reducible repeat (first | refine blk_drewN ?_ _ | refine blk_drew ?_ | refine blk_alloc ?_ _)); refine blk_put (cs := #[.string ((rd_T50 l1 x20_2).f0), .int .i64 0, .int .i64 0, .int .i64 0, .string (⟨#[]⟩ : ByteArray)]) ?_ 1 _ rfl; (with_reducible repeat (first | refine blk_drewN ?_ _ | refine blk_drew ?_ | refine blk_alloc ?_ _)); refine blk_put (cs := #[.string (⟨#[]⟩ : ByteArray), .int .i64 0, .int .i64 0, .int .i64 0, .string (⟨#[]⟩ : ByteArray)]) ?_ 0 _ rfl; (with_reducible repeat (first | refine blk_drewN ?_ _ | refine blk_drew ?_ | refine blk_alloc ?_ _)); exact BK104.out) hb); have n1_ := Aside0.mk (below_step (by repeat (first | (with_reducible first | exact HB.out | apply below_alloc | apply pw_below_drewN | apply below_drew1 | refine below_set ?_ GE104.out) | exact HB.out)) hb); clear BK104; clear HB; have BK104 := n0_; have HB := n1_; clear n0_ n1_; (try clear hb); (try clear hb2); (try clear hk); (try clear hi); have hcz55_0 : w54.cell? ⟨gb104, 0, none⟩ = some (.string ((rd_T50 l1 x20_2).f0)) := (blk_cell BK104.out 0).trans rfl; have hcz55_1 : w54.cell? ⟨gb104, 1, none⟩ = some (.int .i64 ((rd_T50 l1 x20_2).f1)) := (blk_cell BK104.out 1).trans rfl; have hcz55_2 : w54.cell? ⟨gb104, 2, none⟩ = some (.int .i64 ((rd_T50 l1 x20_2).f2)) := (blk_cell BK104.out 2).trans rfl; have hcz55_3 : w54.cell? ⟨gb104, 3, none⟩ = some (.int .i64 ((rd_T50 l1 x20_2).f3)) := (blk_cell BK104.out 3).trans rfl; have hcz55_4 : w54.cell? ⟨gb104, 4, none⟩ = some (.string ((rd_T50 l1 x20_2).f4)) := (blk_cell BK104.out 4).trans rfl; have hfz55_0 := blk_frozen BK104.out 0; have hfz55_1 := blk_frozen BK104.out 1; have hfz55_2 := blk_frozen BK104.out 2; have hfz55_3 := blk_frozen BK104.out 3; have hfz55_4 := blk_frozen BK104.out 4) | ((with_reducible refine gate_callee (f := 29) rfl ?_); refine goesL_ (some 33) rfl rfl Tryd.func29 (by kernel_rfl) rfl #[.int .i64 ((rd_T50 l1 x20_2).f1), .string ((rd_T50 l1 x20_2).f4)] rfl (by (try simp only [List.map_toArray, List.map_cons, List.map_nil]); first | done | rfl | (simp only [List.length_drop, List.length_take]; rfl)) ?_; (with_reducible refine (impl_CheckData.calls k2 ((rd_T50 l1 x20_2).f1) ((rd_T50 l1 x20_2).f4) t106 _ A16.out (HG.out.below (by repeat (first | (with_reducible first | exact HB.out | apply below_alloc | apply pw_below_drewN | apply below_drew1 | refine below_set ?_ GE104.out) | exact HB.out)))).mono ?_); rintro e w56 ⟨rfl, hb⟩; refine ⟨_, rfl, ?_⟩; have n0_ := Aside0.mk (blk_below (g := gb104) (o := .cells #[.string ((rd_T50 l1 x20_2).f0), .int .i64 ((rd_T50 l1 x20_2).f1), .int .i64 ((rd_T50 l1 x20_2).f2), .int .i64 ((rd_T50 l1 x20_2).f3), .string ((rd_T50 l1 x20_2).f4)] 50 (0, 0)) (by (with_reducible repeat (first | refine blk_drewN ?_ _ | refine blk_drew ?_ | refine blk_alloc ?_ _)); exact BK104.out) hb); have n1_ := Aside0.mk (below_step (by repeat (first | (with_reducible first | exact HB.out | apply below_alloc | apply pw_below_drewN | apply below_drew1 | refine below_set ?_ GE104.out) | exact HB.out)) hb); clear BK104; clear HB; have BK104 := n0_; have HB := n1_; clear n0_ n1_; (try clear hb); (try clear hb2); (try clear hk); (try clear hi); have hcz57_0 : w56.cell? ⟨gb104, 0, none⟩ = some (.string ((rd_T50 l1 x20_2).f0)) := (blk_cell BK104.out 0).trans rfl; have hcz57_1 : w56.cell? ⟨gb104, 1, none⟩ = some (.int .i64 ((rd_T50 l1 x20_2).f1)) := (blk_cell BK104.out 1).trans rfl; have hcz57_2 : w56.cell? ⟨gb104, 2, none⟩ = some (.int .i64 ((rd_T50 l1 x20_2).f2)) := (blk_cell BK104.out 2).trans rfl; have hcz57_3 : w56.cell? ⟨gb104, 3, none⟩ = some (.int .i64 ((rd_T50 l1 x20_2).f3)) := (blk_cell BK104.out 3).trans rfl; have hcz57_4 : w56.cell? ⟨gb104, 4, none⟩ = some (.string ((rd_T50 l1 x20_2).f4)) := (blk_cell BK104.out 4).trans rfl; have hfz57_0 := blk_frozen BK104.out 0; have hfz57_1 := blk_frozen BK104.out 1; have hfz57_2 := blk_frozen BK104.out 2; have hfz57_3 := blk_frozen BK104.out 3; have hfz57_4 := blk_frozen BK104.out 4) | (go_at_call 30; (with_reducible refine (impl_isMeta.calls ((rd_T50 l1 x20_2).f1) true _ A49.out).mono ?_); rintro e w' ⟨rfl, ⟨nd, rfl⟩⟩))
                go_roundg k2
                case measure => have := HJ2.out; have := HK2.out; omega
                case rel => exact ⟨(wrap64 (x20_2 + 1)), (by first | rfl | (simp; done) | (simp [*]; done)), H', ⟨by have := HJ2.out; have := HK2.out; omega⟩, ⟨by repeat (first | (with_reducible first | exact HB.out | apply below_alloc | apply pw_below_drewN | apply below_drew1 | refine below_set ?_ GE104.out) | exact HB.out)⟩⟩
               · rw [if_neg c51] at H
                have c51b0 : (((rd_T50 l1 x20_2).f1) == 255) = false := beq_eq_false_iff_ne.mpr c51
                have c51b1 : (((rd_T50 l1 x20_2).f1) != 255) = true := bne_iff_ne.mpr c51
                simp only [Option.some.injEq, Prod.mk.injEq] at H
                obtain ⟨rfl, rfl⟩ := H
                have p103 : 0 ≤ (x20_2 : Int) := of_decide_eq_true (by first | (with_reducible assumption) | assumption)
                have q103 : x20_2 < (l1.length : Int) := of_decide_eq_true (by first | (with_reducible assumption) | assumption)
                obtain ⟨ad103, e103, hx103_0, hx103_1, hx103_2, hx103_3, hx103_4⟩ := at_T50 HR1.out x20_2 p103 q103
                cases e103
                replace hx103_0 := (HB.out.cell (World.block_lt_of_cell? w _ hx103_0)).trans hx103_0
                replace hx103_1 := (HB.out.cell (World.block_lt_of_cell? w _ hx103_1)).trans hx103_1
                replace hx103_2 := (HB.out.cell (World.block_lt_of_cell? w _ hx103_2)).trans hx103_2
                replace hx103_3 := (HB.out.cell (World.block_lt_of_cell? w _ hx103_3)).trans hx103_3
                replace hx103_4 := (HB.out.cell (World.block_lt_of_cell? w _ hx103_4)).trans hx103_4
                replace p103 := eq_true p103
                replace q103 := eq_true q103
                go_wp2_with (first | ((with_reducible refine gate_dst (N := 7) rfl ?_); refine box_event ?hg (N := 7) ?hd (cs := #[.string (⟨#[]⟩ : ByteArray), .int .i64 0, .int .i64 0, .int .i64 0, .string (⟨#[]⟩ : ByteArray)]) (t := 50) ?hr ?_; (case hd => rfl); (case hg => rfl); (case hr => first | (go_simp; done) | (go_simp; rfl)); intro gb104 hg w58 hbox hb; have n0_ := Aside0.mk (below_step (by repeat (first | (with_reducible first | exact HB.out | apply below_alloc | apply pw_below_drewN | apply below_drew1) | exact HB.out)) hb); have n1_ := Aside0.mk (hbox); have n2_ := Aside0.mk ((by rw [hg]; exact (below_size (by repeat (first | (with_reducible first | exact HB.out | apply below_alloc | apply pw_below_drewN | apply below_drew1) | exact HB.out))) : w.heap.size ≤ gb104)); have n3_ := Aside0.mk ((by rw [hg]; exact (below_size (by repeat (first | (with_reducible first | exact HB.out | apply below_alloc | apply pw_below_drewN | apply below_drew1) | exact HB.out))) : w.heap.size ≤ gb104)); clear HB; have HB := n0_; have BK104 := n1_; have GW104 := n2_; have GE104 := n3_; clear n0_ n1_ n2_ n3_; clear hb hbox hg; have hcz59_0 : w58.cell? ⟨gb104, 0, none⟩ = some (.string (⟨#[]⟩ : ByteArray)) := (blk_cell BK104.out 0).trans rfl; have hcz59_1 : w58.cell? ⟨gb104, 1, none⟩ = some (.int .i64 0) := (blk_cell BK104.out 1).trans rfl; have hcz59_2 : w58.cell? ⟨gb104, 2, none⟩ = some (.int .i64 0) := (blk_cell BK104.out 2).trans rfl; have hcz59_3 : w58.cell? ⟨gb104, 3, none⟩ = some (.int .i64 0) := (blk_cell BK104.out 3).trans rfl; have hcz59_4 : w58.cell? ⟨gb104, 4, none⟩ = some (.string (⟨#[]⟩ : ByteArray)) := (blk_cell BK104.out 4).trans rfl; have hfz59_0 := blk_frozen BK104.out 0; have hfz59_1 := blk_frozen BK104.out 1; have hfz59_2 := blk_frozen BK104.out 2; have hfz59_3 := blk_frozen BK104.out 3; have hfz59_4 := blk_frozen BK104.out 4) | ((with_reducible refine gate_callee (f := 28) rfl ?_); refine goesL_ (some 27) rfl rfl Tryd.func28 (by kernel_rfl) rfl #[.string ((rd_T50 l1 x20_2).f0), .string a0] rfl (by (try simp only [List.map_toArray, List.map_cons, List.map_nil]); first | done | rfl | (simp only [List.length_drop, List.length_take]; rfl)) ?_; (with_reducible refine (impl_IsUnder.calls k2 ((rd_T50 l1 x20_2).f0) a0 true _ A14.out).mono ?_); rintro e w60 ⟨rfl, hb⟩; refine ⟨_, rfl, ?_⟩; have n0_ := Aside0.mk (blk_below (g := gb104) (o := .cells #[.string ((rd_T50 l1 x20_2).f0), .int .i64 ((rd_T50 l1 x20_2).f1), .int .i64 ((rd_T50 l1 x20_2).f2), .int .i64 ((rd_T50 l1 x20_2).f3), .string ((rd_T50 l1 x20_2).f4)] 50 (0, 0)) (by (with_reducible repeat (first | refine blk_drewN ?_ _ | refine blk_drew ?_ | refine blk_alloc ?_ _)); refine blk_put (cs := #[.string ((rd_T50 l1 x20_2).f0), .int .i64 ((rd_T50 l1 x20_2).f1), .int .i64 ((rd_T50 l1 x20_2).f2), .int .i64 ((rd_T50 l1 x20_2).f3), .string (⟨#[]⟩ : ByteArray)]) ?_ 4 _ rfl; (with_reducible repeat (first | refine blk_drewN ?_ _ | refine blk_drew ?_ | refine blk_alloc ?_ _)); refine blk_put (cs := #[.string ((rd_T50 l1 x20_2).f0), .int .i64 ((rd_T50 l1 x20_2).f1), .int .i64 ((rd_T50 l1 x20_2).f2), .int .i64 0, .string (⟨#[]⟩ : ByteArray)]) ?_ 3 _ rfl; (with_reducible repeat (first | refine blk_drewN ?_ _ | refine blk_drew ?_ | refine blk_alloc ?_ _)); refine blk_put (cs := #[.string ((rd_T50 l1 x20_2).f0), .int .i64 ((rd_T50 l1 x20_2).f1), .int .i64 0, .int .i64 0, .string (⟨#[]⟩ : ByteArray)]) ?_ 2 _ rfl; (with_reducible repeat (first | refine blk_drewN ?_ _ | refine blk_drew ?_ | refine blk_alloc ?_ _)); refine blk_put (cs := #[.string ((rd_T50 l1 x20_2).f0), .int .i64 0, .int .i64 0, .int .i64 0, .string (⟨#[]⟩ : ByteArray)]) ?_ 1 _ rfl; (with_reducible repeat (first | refine blk_drewN ?_ _ | refine blk_drew ?_ | refine blk_alloc ?_ _)); refine blk_put (cs := #[.string (⟨#[]⟩ : ByteArray), .int .i64 0, .int .i64 0, .int .i64 0, .string (⟨#[]⟩ : ByteArray)]) ?_ 0 _ rfl; (with_reducible repeat (first | refine blk_drewN ?_ _ | refine blk_drew ?_ | refine blk_alloc ?_ _)); exact BK104.out) hb); have n1_ := Aside0.mk (below_step (by repeat (first | (with_reducible first | exact HB.out | apply below_alloc | apply pw_below_drewN | apply below_drew1 | refine below_set ?_ GE104.out) | exact HB.out)) hb); clear BK104; clear HB; have BK104 := n0_; have HB := n1_; clear n0_ n1_; (try clear hb); (try clear hb2); (try clear hk); (try clear hi); have hcz61_0 : w60.cell? ⟨gb104, 0, none⟩ = some (.string ((rd_T50 l1 x20_2).f0)) := (blk_cell BK104.out 0).trans rfl; have hcz61_1 : w60.cell? ⟨gb104, 1, none⟩ = some (.int .i64 ((rd_T50 l1 x20_2).f1)) := (blk_cell BK104.out 1).trans rfl; have hcz61_2 : w60.cell? ⟨gb104, 2, none⟩ = some (.int .i64 ((rd_T50 l1 x20_2).f2)) := (blk_cell BK104.out 2).trans rfl; have hcz61_3 : w60.cell? ⟨gb104, 3, none⟩ = some (.int .i64 ((rd_T50 l1 x20_2).f3)) := (blk_cell BK104.out 3).trans rfl; have hcz61_4 : w60.cell? ⟨gb104, 4, none⟩ = some (.string ((rd_T50 l1 x20_2).f4)) := (blk_cell BK104.out 4).trans rfl; have hfz61_0 := blk_frozen BK104.out 0; have hfz61_1 := blk_frozen BK104.out 1; have hfz61_2 := blk_frozen BK104.out 2; have hfz61_3 := blk_frozen BK104.out 3; have hfz61_4 := blk_frozen BK104.out 4) | ((with_reducible refine gate_callee (f := 29) rfl ?_); refine goesL_ (some 33) rfl rfl Tryd.func29 (by kernel_rfl) rfl #[.int .i64 ((rd_T50 l1 x20_2).f1), .string ((rd_T50 l1 x20_2).f4)] rfl (by (try simp only [List.map_toArray, List.map_cons, List.map_nil]); first | done | rfl | (simp only [List.length_drop, List.length_take]; rfl)) ?_; (with_reducible refine (impl_CheckData.calls k2 ((rd_T50 l1 x20_2).f1) ((rd_T50 l1 x20_2).f4) t106 _ A16.out (HG.out.below (by repeat (first | (with_reducible first | exact HB.out | apply below_alloc | apply pw_below_drewN | apply below_drew1 | refine below_set ?_ GE104.out) | exact HB.out)))).mono ?_); rintro e w62 ⟨rfl, hb⟩; refine ⟨_, rfl, ?_⟩; have n0_ := Aside0.mk (blk_below (g := gb104) (o := .cells #[.string ((rd_T50 l1 x20_2).f0), .int .i64 ((rd_T50 l1 x20_2).f1), .int .i64 ((rd_T50 l1 x20_2).f2), .int .i64 ((rd_T50 l1 x20_2).f3), .string ((rd_T50 l1 x20_2).f4)] 50 (0, 0)) (by (with_reducible repeat (first | refine blk_drewN ?_ _ | refine blk_drew ?_ | refine blk_alloc ?_ _)); exact BK104.out) hb); have n1_ := Aside0.mk (below_step (by repeat (first | (with_reducible first | exact HB.out | apply below_alloc | apply pw_below_drewN | apply below_drew1 | refine below_set ?_ GE104.out) | exact HB.out)) hb); clear BK104; clear HB; have BK104 := n0_; have HB := n1_; clear n0_ n1_; (try clear hb); (try clear hb2); (try clear hk); (try clear hi); have hcz63_0 : w62.cell? ⟨gb104, 0, none⟩ = some (.string ((rd_T50 l1 x20_2).f0)) := (blk_cell BK104.out 0).trans rfl; have hcz63_1 : w62.cell? ⟨gb104, 1, none⟩ = some (.int .i64 ((rd_T50 l1 x20_2).f1)) := (blk_cell BK104.out 1).trans rfl; have hcz63_2 : w62.cell? ⟨gb104, 2, none⟩ = some (.int .i64 ((rd_T50 l1 x20_2).f2)) := (blk_cell BK104.out 2).trans rfl; have hcz63_3 : w62.cell? ⟨gb104, 3, none⟩ = some (.int .i64 ((rd_T50 l1 x20_2).f3)) := (blk_cell BK104.out 3).trans rfl; have hcz63_4 : w62.cell? ⟨gb104, 4, none⟩ = some (.string ((rd_T50 l1 x20_2).f4)) := (blk_cell BK104.out 4).trans rfl; have hfz63_0 := blk_frozen BK104.out 0; have hfz63_1 := blk_frozen BK104.out 1; have hfz63_2 := blk_frozen BK104.out 2; have hfz63_3 := blk_frozen BK104.out 3; have hfz63_4 := blk_frozen BK104.out 4) | (go_at_call 30; (with_reducible refine (impl_isMeta.calls ((rd_T50 l1 x20_2).f1) true _ A49.out).mono ?_); rintro e w' ⟨rfl, ⟨nd, rfl⟩⟩))
                go_ret2
                exact ⟨by first | rfl | (simp [errW_none, errW_some] <;> rfl) | (simp [*, errW_none, errW_some] <;> rfl), by repeat (first | (with_reducible first | exact HB.out | apply below_alloc | apply pw_below_drewN | apply below_drew1 | refine below_set ?_ GE104.out) | exact HB.out)⟩
              · replace c50 := Bool.eq_false_iff.mpr c50
               subst c50
               have H1 : (impl_CheckChanges.l0 k2 a0 l1 (l1.length : Int) (wrap64 (x20_2 + 1))) = some (r1, r2) := by rw [if_neg (show ¬ (false = true) by decide)] at H; exact H
               clear H
               have H := H1
               clear H1
               have H' := Aside0.mk H
               clear H
               have p103 : 0 ≤ (x20_2 : Int) := of_decide_eq_true (by first | (with_reducible assumption) | assumption)
               have q103 : x20_2 < (l1.length : Int) := of_decide_eq_true (by first | (with_reducible assumption) | assumption)
               obtain ⟨ad103, e103, hx103_0, hx103_1, hx103_2, hx103_3, hx103_4⟩ := at_T50 HR1.out x20_2 p103 q103
               cases e103
               replace hx103_0 := (HB.out.cell (World.block_lt_of_cell? w _ hx103_0)).trans hx103_0
               replace hx103_1 := (HB.out.cell (World.block_lt_of_cell? w _ hx103_1)).trans hx103_1
               replace hx103_2 := (HB.out.cell (World.block_lt_of_cell? w _ hx103_2)).trans hx103_2
               replace hx103_3 := (HB.out.cell (World.block_lt_of_cell? w _ hx103_3)).trans hx103_3
               replace hx103_4 := (HB.out.cell (World.block_lt_of_cell? w _ hx103_4)).trans hx103_4
               replace p103 := eq_true p103
               replace q103 := eq_true q103
               go_wp2_with (first | ((with_reducible refine gate_dst (N := 7) rfl ?_); refine box_event ?hg (N := 7) ?hd (cs := #[.string (⟨#[]⟩ : ByteArray), .int .i64 0, .int .i64 0, .int .i64 0, .string (⟨#[]⟩ : ByteArray)]) (t := 50) ?hr ?_; (case hd => rfl); (case hg => rfl); (case hr => first | (go_simp; done) | (go_simp; rfl)); intro gb104 hg w64 hbox hb; have n0_ := Aside0.mk (below_step (by repeat (first | (with_reducible first | exact HB.out | apply below_alloc | apply pw_below_drewN | apply below_drew1) | exact HB.out)) hb); have n1_ := Aside0.mk (hbox); have n2_ := Aside0.mk ((by rw [hg]; exact (below_size (by repeat (first | (with_reducible first | exact HB.out | apply below_alloc | apply pw_below_drewN | apply below_drew1) | exact HB.out))) : w.heap.size ≤ gb104)); have n3_ := Aside0.mk ((by rw [hg]; exact (below_size (by repeat (first | (with_reducible first | exact HB.out | apply below_alloc | apply pw_below_drewN | apply below_drew1) | exact HB.out))) : w.heap.size ≤ gb104)); clear HB; have HB := n0_; have BK104 := n1_; have GW104 := n2_; have GE104 := n3_; clear n0_ n1_ n2_ n3_; clear hb hbox hg; have hcz65_0 : w64.cell? ⟨gb104, 0, none⟩ = some (.string (⟨#[]⟩ : ByteArray)) := (blk_cell BK104.out 0).trans rfl; have hcz65_1 : w64.cell? ⟨gb104, 1, none⟩ = some (.int .i64 0) := (blk_cell BK104.out 1).trans rfl; have hcz65_2 : w64.cell? ⟨gb104, 2, none⟩ = some (.int .i64 0) := (blk_cell BK104.out 2).trans rfl; have hcz65_3 : w64.cell? ⟨gb104, 3, none⟩ = some (.int .i64 0) := (blk_cell BK104.out 3).trans rfl; have hcz65_4 : w64.cell? ⟨gb104, 4, none⟩ = some (.string (⟨#[]⟩ : ByteArray)) := (blk_cell BK104.out 4).trans rfl; have hfz65_0 := blk_frozen BK104.out 0; have hfz65_1 := blk_frozen BK104.out 1; have hfz65_2 := blk_frozen BK104.out 2; have hfz65_3 := blk_frozen BK104.out 3; have hfz65_4 := blk_frozen BK104.out 4) | ((with_reducible refine gate_callee (f := 28) rfl ?_); refine goesL_ (some 27) rfl rfl Tryd.func28 (by kernel_rfl) rfl #[.string ((rd_T50 l1 x20_2).f0), .string a0] rfl (by (try simp only [List.map_toArray, List.map_cons, List.map_nil]); first | done | rfl | (simp only [List.length_drop, List.length_take]; rfl)) ?_; (with_reducible refine (impl_IsUnder.calls k2 ((rd_T50 l1 x20_2).f0) a0 true _ A14.out).mono ?_); rintro e w66 ⟨rfl, hb⟩; refine ⟨_, rfl, ?_⟩; have n0_ := Aside0.mk (blk_below (g := gb104) (o := .cells #[.string ((rd_T50 l1 x20_2).f0), .int .i64 ((rd_T50 l1 x20_2).f1), .int .i64 ((rd_T50 l1 x20_2).f2), .int .i64 ((rd_T50 l1 x20_2).f3), .string ((rd_T50 l1 x20_2).f4)] 50 (0, 0)) (by (with_reducible repeat (first | refine blk_drewN ?_ _ | refine blk_drew ?_ | refine blk_alloc ?_ _)); refine blk_put (cs := #[.string ((rd_T50 l1 x20_2).f0), .int .i64 ((rd_T50 l1 x20_2).f1), .int .i64 ((rd_T50 l1 x20_2).f2), .int .i64 ((rd_T50 l1 x20_2).f3), .string (⟨#[]⟩ : ByteArray)]) ?_ 4 _ rfl; (with_reducible repeat (first | refine blk_drewN ?_ _ | refine blk_drew ?_ | refine blk_alloc ?_ _)); refine blk_put (cs := #[.string ((rd_T50 l1 x20_2).f0), .int .i64 ((rd_T50 l1 x20_2).f1), .int .i64 ((rd_T50 l1 x20_2).f2), .int .i64 0, .string (⟨#[]⟩ : ByteArray)]) ?_ 3 _ rfl; (with_reducible repeat (first | refine blk_drewN ?_ _ | refine blk_drew ?_ | refine blk_alloc ?_ _)); refine blk_put (cs := #[.string ((rd_T50 l1 x20_2).f0), .int .i64 ((rd_T50 l1 x20_2).f1), .int .i64 0, .int .i64 0, .string (⟨#[]⟩ : ByteArray)]) ?_ 2 _ rfl; (with_reducible repeat (first | refine blk_drewN ?_ _ | refine blk_drew ?_ | refine blk_alloc ?_ _)); refine blk_put (cs := #[.string ((rd_T50 l1 x20_2).f0), .int .i64 0, .int .i64 0, .int .i64 0, .string (⟨#[]⟩ : ByteArray)]) ?_ 1 _ rfl; (with_reducible repeat (first | refine blk_drewN ?_ _ | refine blk_drew ?_ | refine blk_alloc ?_ _)); refine blk_put (cs := #[.string (⟨#[]⟩ : ByteArray), .int .i64 0, .int .i64 0, .int .i64 0, .string (⟨#[]⟩ : ByteArray)]) ?_ 0 _ rfl; (with_reducible repeat (first | refine blk_drewN ?_ _ | refine blk_drew ?_ | refine blk_alloc ?_ _)); exact BK104.out) hb); have n1_ := Aside0.mk (below_step (by repeat (first | (with_reducible first | exact HB.out | apply below_alloc | apply pw_below_drewN | apply below_drew1 | refine below_set ?_ GE104.out) | exact HB.out)) hb); clear BK104; clear HB; have BK104 := n0_; have HB := n1_; clear n0_ n1_; (try clear hb); (try clear hb2); (try clear hk); (try clear hi); have hcz67_0 : w66.cell? ⟨gb104, 0, none⟩ = some (.string ((rd_T50 l1 x20_2).f0)) := (blk_cell BK104.out 0).trans rfl; have hcz67_1 : w66.cell? ⟨gb104, 1, none⟩ = some (.int .i64 ((rd_T50 l1 x20_2).f1)) := (blk_cell BK104.out 1).trans rfl; have hcz67_2 : w66.cell? ⟨gb104, 2, none⟩ = some (.int .i64 ((rd_T50 l1 x20_2).f2)) := (blk_cell BK104.out 2).trans rfl; have hcz67_3 : w66.cell? ⟨gb104, 3, none⟩ = some (.int .i64 ((rd_T50 l1 x20_2).f3)) := (blk_cell BK104.out 3).trans rfl; have hcz67_4 : w66.cell? ⟨gb104, 4, none⟩ = some (.string ((rd_T50 l1 x20_2).f4)) := (blk_cell BK104.out 4).trans rfl; have hfz67_0 := blk_frozen BK104.out 0; have hfz67_1 := blk_frozen BK104.out 1; have hfz67_2 := blk_frozen BK104.out 2; have hfz67_3 := blk_frozen BK104.out 3; have hfz67_4 := blk_frozen BK104.out 4) | ((with_reducible refine gate_callee (f := 29) rfl ?_); refine goesL_ (some 33) rfl rfl Tryd.func29 (by kernel_rfl) rfl #[.int .i64 ((rd_T50 l1 x20_2).f1), .string ((rd_T50 l1 x20_2).f4)] rfl (by (try simp only [List.map_toArray, List.map_cons, List.map_nil]); first | done | rfl | (simp only [List.length_drop, List.length_take]; rfl)) ?_; (with_reducible refine (impl_CheckData.calls k2 ((rd_T50 l1 x20_2).f1) ((rd_T50 l1 x20_2).f4) t106 _ A16.out (HG.out.below (by repeat (first | (with_reducible first | exact HB.out | apply below_alloc | apply pw_below_drewN | apply below_drew1 | refine below_set ?_ GE104.out) | exact HB.out)))).mono ?_); rintro e w68 ⟨rfl, hb⟩; refine ⟨_, rfl, ?_⟩; have n0_ := Aside0.mk (blk_below (g := gb104) (o := .cells #[.string ((rd_T50 l1 x20_2).f0), .int .i64 ((rd_T50 l1 x20_2).f1), .int .i64 ((rd_T50 l1 x20_2).f2), .int .i64 ((rd_T50 l1 x20_2).f3), .string ((rd_T50 l1 x20_2).f4)] 50 (0, 0)) (by (with_reducible repeat (first | refine blk_drewN ?_ _ | refine blk_drew ?_ | refine blk_alloc ?_ _)); exact BK104.out) hb); have n1_ := Aside0.mk (below_step (by repeat (first | (with_reducible first | exact HB.out | apply below_alloc | apply pw_below_drewN | apply below_drew1 | refine below_set ?_ GE104.out) | exact HB.out)) hb); clear BK104; clear HB; have BK104 := n0_; have HB := n1_; clear n0_ n1_; (try clear hb); (try clear hb2); (try clear hk); (try clear hi); have hcz69_0 : w68.cell? ⟨gb104, 0, none⟩ = some (.string ((rd_T50 l1 x20_2).f0)) := (blk_cell BK104.out 0).trans rfl; have hcz69_1 : w68.cell? ⟨gb104, 1, none⟩ = some (.int .i64 ((rd_T50 l1 x20_2).f1)) := (blk_cell BK104.out 1).trans rfl; have hcz69_2 : w68.cell? ⟨gb104, 2, none⟩ = some (.int .i64 ((rd_T50 l1 x20_2).f2)) := (blk_cell BK104.out 2).trans rfl; have hcz69_3 : w68.cell? ⟨gb104, 3, none⟩ = some (.int .i64 ((rd_T50 l1 x20_2).f3)) := (blk_cell BK104.out 3).trans rfl; have hcz69_4 : w68.cell? ⟨gb104, 4, none⟩ = some (.string ((rd_T50 l1 x20_2).f4)) := (blk_cell BK104.out 4).trans rfl; have hfz69_0 := blk_frozen BK104.out 0; have hfz69_1 := blk_frozen BK104.out 1; have hfz69_2 := blk_frozen BK104.out 2; have hfz69_3 := blk_frozen BK104.out 3; have hfz69_4 := blk_frozen BK104.out 4) | (go_at_call 30; (with_reducible refine (impl_isMeta.calls ((rd_T50 l1 x20_2).f1) false _ A49.out).mono ?_); rintro e w' ⟨rfl, ⟨nd, rfl⟩⟩))
               go_roundg k2
               case measure => have := HJ2.out; have := HK2.out; omega
               case rel => exact ⟨(wrap64 (x20_2 + 1)), (by first | rfl | (simp; done) | (simp [*]; done)), H', ⟨by have := HJ2.out; have := HK2.out; omega⟩, ⟨by repeat (first | (with_reducible first | exact HB.out | apply below_alloc | apply pw_below_drewN | apply below_drew1 | refine below_set ?_ GE104.out) | exact HB.out)⟩⟩
             · rw [if_neg c48] at H
              have c48b0 : (((rd_T50 l1 x20_2).f4).toList == ([] : List UInt8)) = false := beq_eq_false_iff_ne.mpr c48
              have c48b1 : (((rd_T50 l1 x20_2).f4).toList != ([] : List UInt8)) = true := bne_iff_ne.mpr c48
              simp only [Option.some.injEq, Prod.mk.injEq] at H
              obtain ⟨rfl, rfl⟩ := H
              have p103 : 0 ≤ (x20_2 : Int) := of_decide_eq_true (by first | (with_reducible assumption) | assumption)
              have q103 : x20_2 < (l1.length : Int) := of_decide_eq_true (by first | (with_reducible assumption) | assumption)
              obtain ⟨ad103, e103, hx103_0, hx103_1, hx103_2, hx103_3, hx103_4⟩ := at_T50 HR1.out x20_2 p103 q103
              cases e103
              replace hx103_0 := (HB.out.cell (World.block_lt_of_cell? w _ hx103_0)).trans hx103_0
              replace hx103_1 := (HB.out.cell (World.block_lt_of_cell? w _ hx103_1)).trans hx103_1
              replace hx103_2 := (HB.out.cell (World.block_lt_of_cell? w _ hx103_2)).trans hx103_2
              replace hx103_3 := (HB.out.cell (World.block_lt_of_cell? w _ hx103_3)).trans hx103_3
              replace hx103_4 := (HB.out.cell (World.block_lt_of_cell? w _ hx103_4)).trans hx103_4
              replace p103 := eq_true p103
              replace q103 := eq_true q103
              go_wp2_with (first | ((with_reducible refine gate_dst (N := 7) rfl ?_); refine box_event ?hg (N := 7) ?hd (cs := #[.string (⟨#[]⟩ : ByteArray), .int .i64 0, .int .i64 0, .int .i64 0, .string (⟨#[]⟩ : ByteArray)]) (t := 50) ?hr ?_; (case hd => rfl); (case hg => rfl); (case hr => first | (go_simp; done) | (go_simp; rfl)); intro gb104 hg w70 hbox hb; have n0_ := Aside0.mk (below_step (by repeat (first | (with_reducible first | exact HB.out | apply below_alloc | apply pw_below_drewN | apply below_drew1) | exact HB.out)) hb); have n1_ := Aside0.mk (hbox); have n2_ := Aside0.mk ((by rw [hg]; exact (below_size (by repeat (first | (with_reducible first | exact HB.out | apply below_alloc | apply pw_below_drewN | apply below_drew1) | exact HB.out))) : w.heap.size ≤ gb104)); have n3_ := Aside0.mk ((by rw [hg]; exact (below_size (by repeat (first | (with_reducible first | exact HB.out | apply below_alloc | apply pw_below_drewN | apply below_drew1) | exact HB.out))) : w.heap.size ≤ gb104)); clear HB; have HB := n0_; have BK104 := n1_; have GW104 := n2_; have GE104 := n3_; clear n0_ n1_ n2_ n3_; clear hb hbox hg; have hcz71_0 : w70.cell? ⟨gb104, 0, none⟩ = some (.string (⟨#[]⟩ : ByteArray)) := (blk_cell BK104.out 0).trans rfl; have hcz71_1 : w70.cell? ⟨gb104, 1, none⟩ = some (.int .i64 0) := (blk_cell BK104.out 1).trans rfl; have hcz71_2 : w70.cell? ⟨gb104, 2, none⟩ = some (.int .i64 0) := (blk_cell BK104.out 2).trans rfl; have hcz71_3 : w70.cell? ⟨gb104, 3, none⟩ = some (.int .i64 0) := (blk_cell BK104.out 3).trans rfl; have hcz71_4 : w70.cell? ⟨gb104, 4, none⟩ = some (.string (⟨#[]⟩ : ByteArray)) := (blk_cell BK104.out 4).trans rfl; have hfz71_0 := blk_frozen BK104.out 0; have hfz71_1 := blk_frozen BK104.out 1; have hfz71_2 := blk_frozen BK104.out 2; have hfz71_3 := blk_frozen BK104.out 3; have hfz71_4 := blk_frozen BK104.out 4) | ((with_reducible refine gate_callee (f := 28) rfl ?_); refine goesL_ (some 27) rfl rfl Tryd.func28 (by kernel_rfl) rfl #[.string ((rd_T50 l1 x20_2).f0), .string a0] rfl (by (try simp only [List.map_toArray, List.map_cons, List.map_nil]); first | done | rfl | (simp only [List.length_drop, List.length_take]; rfl)) ?_; (with_reducible refine (impl_IsUnder.calls k2 ((rd_T50 l1 x20_2).f0) a0 true _ A14.out).mono ?_); rintro e w72 ⟨rfl, hb⟩; refine ⟨_, rfl, ?_⟩; have n0_ := Aside0.mk (blk_below (g := gb104) (o := .cells #[.string ((rd_T50 l1 x20_2).f0), .int .i64 ((rd_T50 l1 x20_2).f1), .int .i64 ((rd_T50 l1 x20_2).f2), .int .i64 ((rd_T50 l1 x20_2).f3), .string ((rd_T50 l1 x20_2).f4)] 50 (0, 0)) (by (with_reducible repeat (first | refine blk_drewN ?_ _ | refine blk_drew ?_ | refine blk_alloc ?_ _)); refine blk_put (cs := #[.string ((rd_T50 l1 x20_2).f0), .int .i64 ((rd_T50 l1 x20_2).f1), .int .i64 ((rd_T50 l1 x20_2).f2), .int .i64 ((rd_T50 l1 x20_2).f3), .string (⟨#[]⟩ : ByteArray)]) ?_ 4 _ rfl; (with_reducible repeat (first | refine blk_drewN ?_ _ | refine blk_drew ?_ | refine blk_alloc ?_ _)); refine blk_put (cs := #[.string ((rd_T50 l1 x20_2).f0), .int .i64 ((rd_T50 l1 x20_2).f1), .int .i64 ((rd_T50 l1 x20_2).f2), .int .i64 0, .string (⟨#[]⟩ : ByteArray)]) ?_ 3 _ rfl; (with_reducible repeat (first | refine blk_drewN ?_ _ | refine blk_drew ?_ | refine blk_alloc ?_ _)); refine blk_put (cs := #[.string ((rd_T50 l1 x20_2).f0), .int .i64 ((rd_T50 l1 x20_2).f1), .int .i64 0, .int .i64 0, .string (⟨#[]⟩ : ByteArray)]) ?_ 2 _ rfl; (with_reducible repeat (first | refine blk_drewN ?_ _ | refine blk_drew ?_ | refine blk_alloc ?_ _)); refine blk_put (cs := #[.string ((rd_T50 l1 x20_2).f0), .int .i64 0, .int .i64 0, .int .i64 0, .string (⟨#[]⟩ : ByteArray)]) ?_ 1 _ rfl; (with_reducible repeat (first | refine blk_drewN ?_ _ | refine blk_drew ?_ | refine blk_alloc ?_ _)); refine blk_put (cs := #[.string (⟨#[]⟩ : ByteArray), .int .i64 0, .int .i64 0, .int .i64 0, .string (⟨#[]⟩ : ByteArray)]) ?_ 0 _ rfl; (with_reducible repeat (first | refine blk_drewN ?_ _ | refine blk_drew ?_ | refine blk_alloc ?_ _)); exact BK104.out) hb); have n1_ := Aside0.mk (below_step (by repeat (first | (with_reducible first | exact HB.out | apply below_alloc | apply pw_below_drewN | apply below_drew1 | refine below_set ?_ GE104.out) | exact HB.out)) hb); clear BK104; clear HB; have BK104 := n0_; have HB := n1_; clear n0_ n1_; (try clear hb); (try clear hb2); (try clear hk); (try clear hi); have hcz73_0 : w72.cell? ⟨gb104, 0, none⟩ = some (.string ((rd_T50 l1 x20_2).f0)) := (blk_cell BK104.out 0).trans rfl; have hcz73_1 : w72.cell? ⟨gb104, 1, none⟩ = some (.int .i64 ((rd_T50 l1 x20_2).f1)) := (blk_cell BK104.out 1).trans rfl; have hcz73_2 : w72.cell? ⟨gb104, 2, none⟩ = some (.int .i64 ((rd_T50 l1 x20_2).f2)) := (blk_cell BK104.out 2).trans rfl; have hcz73_3 : w72.cell? ⟨gb104, 3, none⟩ = some (.int .i64 ((rd_T50 l1 x20_2).f3)) := (blk_cell BK104.out 3).trans rfl; have hcz73_4 : w72.cell? ⟨gb104, 4, none⟩ = some (.string ((rd_T50 l1 x20_2).f4)) := (blk_cell BK104.out 4).trans rfl; have hfz73_0 := blk_frozen BK104.out 0; have hfz73_1 := blk_frozen BK104.out 1; have hfz73_2 := blk_frozen BK104.out 2; have hfz73_3 := blk_frozen BK104.out 3; have hfz73_4 := blk_frozen BK104.out 4) | ((with_reducible refine gate_callee (f := 29) rfl ?_); refine goesL_ (some 33) rfl rfl Tryd.func29 (by kernel_rfl) rfl #[.int .i64 ((rd_T50 l1 x20_2).f1), .string ((rd_T50 l1 x20_2).f4)] rfl (by (try simp only [List.map_toArray, List.map_cons, List.map_nil]); first | done | rfl | (simp only [List.length_drop, List.length_take]; rfl)) ?_; (with_reducible refine (impl_CheckData.calls k2 ((rd_T50 l1 x20_2).f1) ((rd_T50 l1 x20_2).f4) t106 _ A16.out (HG.out.below (by repeat (first | (with_reducible first | exact HB.out | apply below_alloc | apply pw_below_drewN | apply below_drew1 | refine below_set ?_ GE104.out) | exact HB.out)))).mono ?_); rintro e w74 ⟨rfl, hb⟩; refine ⟨_, rfl, ?_⟩; have n0_ := Aside0.mk (blk_below (g := gb104) (o := .cells #[.string ((rd_T50 l1 x20_2).f0), .int .i64 ((rd_T50 l1 x20_2).f1), .int .i64 ((rd_T50 l1 x20_2).f2), .int .i64 ((rd_T50 l1 x20_2).f3), .string ((rd_T50 l1 x20_2).f4)] 50 (0, 0)) (by (with_reducible repeat (first | refine blk_drewN ?_ _ | refine blk_drew ?_ | refine blk_alloc ?_ _)); exact BK104.out) hb); have n1_ := Aside0.mk (below_step (by repeat (first | (with_reducible first | exact HB.out | apply below_alloc | apply pw_below_drewN | apply below_drew1 | refine below_set ?_ GE104.out) | exact HB.out)) hb); clear BK104; clear HB; have BK104 := n0_; have HB := n1_; clear n0_ n1_; (try clear hb); (try clear hb2); (try clear hk); (try clear hi); have hcz75_0 : w74.cell? ⟨gb104, 0, none⟩ = some (.string ((rd_T50 l1 x20_2).f0)) := (blk_cell BK104.out 0).trans rfl; have hcz75_1 : w74.cell? ⟨gb104, 1, none⟩ = some (.int .i64 ((rd_T50 l1 x20_2).f1)) := (blk_cell BK104.out 1).trans rfl; have hcz75_2 : w74.cell? ⟨gb104, 2, none⟩ = some (.int .i64 ((rd_T50 l1 x20_2).f2)) := (blk_cell BK104.out 2).trans rfl; have hcz75_3 : w74.cell? ⟨gb104, 3, none⟩ = some (.int .i64 ((rd_T50 l1 x20_2).f3)) := (blk_cell BK104.out 3).trans rfl; have hcz75_4 : w74.cell? ⟨gb104, 4, none⟩ = some (.string ((rd_T50 l1 x20_2).f4)) := (blk_cell BK104.out 4).trans rfl; have hfz75_0 := blk_frozen BK104.out 0; have hfz75_1 := blk_frozen BK104.out 1; have hfz75_2 := blk_frozen BK104.out 2; have hfz75_3 := blk_frozen BK104.out 3; have hfz75_4 := blk_frozen BK104.out 4))
              go_ret2
              exact ⟨by first | rfl | (simp [errW_none, errW_some] <;> rfl) | (simp [*, errW_none, errW_some] <;> rfl), by repeat (first | (with_reducible first | exact HB.out | apply below_alloc | apply pw_below_drewN | apply below_drew1 | refine below_set ?_ GE104.out) | exact HB.out)⟩
            · rw [if_neg c47] at H
             have c47b0 : (((rd_T50 l1 x20_2).f3) == 0) = false := beq_eq_false_iff_ne.mpr c47
             have c47b1 : (((rd_T50 l1 x20_2).f3) != 0) = true := bne_iff_ne.mpr c47
             simp only [Option.some.injEq, Prod.mk.injEq] at H
             obtain ⟨rfl, rfl⟩ := H
             have p103 : 0 ≤ (x20_2 : Int) := of_decide_eq_true (by first | (with_reducible assumption) | assumption)
             have q103 : x20_2 < (l1.length : Int) := of_decide_eq_true (by first | (with_reducible assumption) | assumption)
             obtain ⟨ad103, e103, hx103_0, hx103_1, hx103_2, hx103_3, hx103_4⟩ := at_T50 HR1.out x20_2 p103 q103
             cases e103
             replace hx103_0 := (HB.out.cell (World.block_lt_of_cell? w _ hx103_0)).trans hx103_0
             replace hx103_1 := (HB.out.cell (World.block_lt_of_cell? w _ hx103_1)).trans hx103_1
             replace hx103_2 := (HB.out.cell (World.block_lt_of_cell? w _ hx103_2)).trans hx103_2
             replace hx103_3 := (HB.out.cell (World.block_lt_of_cell? w _ hx103_3)).trans hx103_3
             replace hx103_4 := (HB.out.cell (World.block_lt_of_cell? w _ hx103_4)).trans hx103_4
             replace p103 := eq_true p103
             replace q103 := eq_true q103
             go_wp2_with (first | ((with_reducible refine gate_dst (N := 7) rfl ?_); refine box_event ?hg (N := 7) ?hd (cs := #[.string (⟨#[]⟩ : ByteArray), .int .i64 0, .int .i64 0, .int .i64 0, .string (⟨#[]⟩ : ByteArray)]) (t := 50) ?hr ?_; (case hd => rfl); (case hg => rfl); (case hr => first | (go_simp; done) | (go_simp; rfl)); intro gb104 hg w76 hbox hb; have n0_ := Aside0.mk (below_step (by repeat (first | (with_reducible first | exact HB.out | apply below_alloc | apply pw_below_drewN | apply below_drew1) | exact HB.out)) hb); have n1_ := Aside0.mk (hbox); have n2_ := Aside0.mk ((by rw [hg]; exact (below_size (by repeat (first | (with_reducible first | exact HB.out | apply below_alloc | apply pw_below_drewN | apply below_drew1) | exact HB.out))) : w.heap.size ≤ gb104)); have n3_ := Aside0.mk ((by rw [hg]; exact (below_size (by repeat (first | (with_reducible first | exact HB.out | apply below_alloc | apply pw_below_drewN | apply below_drew1) | exact HB.out))) : w.heap.size ≤ gb104)); clear HB; have HB := n0_; have BK104 := n1_; have GW104 := n2_; have GE104 := n3_; clear n0_ n1_ n2_ n3_; clear hb hbox hg; have hcz77_0 : w76.cell? ⟨gb104, 0, none⟩ = some (.string (⟨#[]⟩ : ByteArray)) := (blk_cell BK104.out 0).trans rfl; have hcz77_1 : w76.cell? ⟨gb104, 1, none⟩ = some (.int .i64 0) := (blk_cell BK104.out 1).trans rfl; have hcz77_2 : w76.cell? ⟨gb104, 2, none⟩ = some (.int .i64 0) := (blk_cell BK104.out 2).trans rfl; have hcz77_3 : w76.cell? ⟨gb104, 3, none⟩ = some (.int .i64 0) := (blk_cell BK104.out 3).trans rfl; have hcz77_4 : w76.cell? ⟨gb104, 4, none⟩ = some (.string (⟨#[]⟩ : ByteArray)) := (blk_cell BK104.out 4).trans rfl; have hfz77_0 := blk_frozen BK104.out 0; have hfz77_1 := blk_frozen BK104.out 1; have hfz77_2 := blk_frozen BK104.out 2; have hfz77_3 := blk_frozen BK104.out 3; have hfz77_4 := blk_frozen BK104.out 4) | ((with_reducible refine gate_callee (f := 28) rfl ?_); refine goesL_ (some 27) rfl rfl Tryd.func28 (by kernel_rfl) rfl #[.string ((rd_T50 l1 x20_2).f0), .string a0] rfl (by (try simp only [List.map_toArray, List.map_cons, List.map_nil]); first | done | rfl | (simp only [List.length_drop, List.length_take]; rfl)) ?_; (with_reducible refine (impl_IsUnder.calls k2 ((rd_T50 l1 x20_2).f0) a0 true _ A14.out).mono ?_); rintro e w78 ⟨rfl, hb⟩; refine ⟨_, rfl, ?_⟩; have n0_ := Aside0.mk (blk_below (g := gb104) (o := .cells #[.string ((rd_T50 l1 x20_2).f0), .int .i64 ((rd_T50 l1 x20_2).f1), .int .i64 ((rd_T50 l1 x20_2).f2), .int .i64 ((rd_T50 l1 x20_2).f3), .string ((rd_T50 l1 x20_2).f4)] 50 (0, 0)) (by (with_reducible repeat (first | refine blk_drewN ?_ _ | refine blk_drew ?_ | refine blk_alloc ?_ _)); refine blk_put (cs := #[.string ((rd_T50 l1 x20_2).f0), .int .i64 ((rd_T50 l1 x20_2).f1), .int .i64 ((rd_T50 l1 x20_2).f2), .int .i64 ((rd_T50 l1 x20_2).f3), .string (⟨#[]⟩ : ByteArray)]) ?_ 4 _ rfl; (with_reducible repeat (first | refine blk_drewN ?_ _ | refine blk_drew ?_ | refine blk_alloc ?_ _)); refine blk_put (cs := #[.string ((rd_T50 l1 x20_2).f0), .int .i64 ((rd_T50 l1 x20_2).f1), .int .i64 ((rd_T50 l1 x20_2).f2), .int .i64 0, .string (⟨#[]⟩ : ByteArray)]) ?_ 3 _ rfl; (with_reducible repeat (first | refine blk_drewN ?_ _ | refine blk_drew ?_ | refine blk_alloc ?_ _)); refine blk_put (cs := #[.string ((rd_T50 l1 x20_2).f0), .int .i64 ((rd_T50 l1 x20_2).f1), .int .i64 0, .int .i64 0, .string (⟨#[]⟩ : ByteArray)]) ?_ 2 _ rfl; (with_reducible repeat (first | refine blk_drewN ?_ _ | refine blk_drew ?_ | refine blk_alloc ?_ _)); refine blk_put (cs := #[.string ((rd_T50 l1 x20_2).f0), .int .i64 0, .int .i64 0, .int .i64 0, .string (⟨#[]⟩ : ByteArray)]) ?_ 1 _ rfl; (with_reducible repeat (first | refine blk_drewN ?_ _ | refine blk_drew ?_ | refine blk_alloc ?_ _)); refine blk_put (cs := #[.string (⟨#[]⟩ : ByteArray), .int .i64 0, .int .i64 0, .int .i64 0, .string (⟨#[]⟩ : ByteArray)]) ?_ 0 _ rfl; (with_reducible repeat (first | refine blk_drewN ?_ _ | refine blk_drew ?_ | refine blk_alloc ?_ _)); exact BK104.out) hb); have n1_ := Aside0.mk (below_step (by repeat (first | (with_reducible first | exact HB.out | apply below_alloc | apply pw_below_drewN | apply below_drew1 | refine below_set ?_ GE104.out) | exact HB.out)) hb); clear BK104; clear HB; have BK104 := n0_; have HB := n1_; clear n0_ n1_; (try clear hb); (try clear hb2); (try clear hk); (try clear hi); have hcz79_0 : w78.cell? ⟨gb104, 0, none⟩ = some (.string ((rd_T50 l1 x20_2).f0)) := (blk_cell BK104.out 0).trans rfl; have hcz79_1 : w78.cell? ⟨gb104, 1, none⟩ = some (.int .i64 ((rd_T50 l1 x20_2).f1)) := (blk_cell BK104.out 1).trans rfl; have hcz79_2 : w78.cell? ⟨gb104, 2, none⟩ = some (.int .i64 ((rd_T50 l1 x20_2).f2)) := (blk_cell BK104.out 2).trans rfl; have hcz79_3 : w78.cell? ⟨gb104, 3, none⟩ = some (.int .i64 ((rd_T50 l1 x20_2).f3)) := (blk_cell BK104.out 3).trans rfl; have hcz79_4 : w78.cell? ⟨gb104, 4, none⟩ = some (.string ((rd_T50 l1 x20_2).f4)) := (blk_cell BK104.out 4).trans rfl; have hfz79_0 := blk_frozen BK104.out 0; have hfz79_1 := blk_frozen BK104.out 1; have hfz79_2 := blk_frozen BK104.out 2; have hfz79_3 := blk_frozen BK104.out 3; have hfz79_4 := blk_frozen BK104.out 4) | ((with_reducible refine gate_callee (f := 29) rfl ?_); refine goesL_ (some 33) rfl rfl Tryd.func29 (by kernel_rfl) rfl #[.int .i64 ((rd_T50 l1 x20_2).f1), .string ((rd_T50 l1 x20_2).f4)] rfl (by (try simp only [List.map_toArray, List.map_cons, List.map_nil]); first | done | rfl | (simp only [List.length_drop, List.length_take]; rfl)) ?_; (with_reducible refine (impl_CheckData.calls k2 ((rd_T50 l1 x20_2).f1) ((rd_T50 l1 x20_2).f4) t106 _ A16.out (HG.out.below (by repeat (first | (with_reducible first | exact HB.out | apply below_alloc | apply pw_below_drewN | apply below_drew1 | refine below_set ?_ GE104.out) | exact HB.out)))).mono ?_); rintro e w80 ⟨rfl, hb⟩; refine ⟨_, rfl, ?_⟩; have n0_ := Aside0.mk (blk_below (g := gb104) (o := .cells #[.string ((rd_T50 l1 x20_2).f0), .int .i64 ((rd_T50 l1 x20_2).f1), .int .i64 ((rd_T50 l1 x20_2).f2), .int .i64 ((rd_T50 l1 x20_2).f3), .string ((rd_T50 l1 x20_2).f4)] 50 (0, 0)) (by (with_reducible repeat (first | refine blk_drewN ?_ _ | refine blk_drew ?_ | refine blk_alloc ?_ _)); exact BK104.out) hb); have n1_ := Aside0.mk (below_step (by repeat (first | (with_reducible first | exact HB.out | apply below_alloc | apply pw_below_drewN | apply below_drew1 | refine below_set ?_ GE104.out) | exact HB.out)) hb); clear BK104; clear HB; have BK104 := n0_; have HB := n1_; clear n0_ n1_; (try clear hb); (try clear hb2); (try clear hk); (try clear hi); have hcz81_0 : w80.cell? ⟨gb104, 0, none⟩ = some (.string ((rd_T50 l1 x20_2).f0)) := (blk_cell BK104.out 0).trans rfl; have hcz81_1 : w80.cell? ⟨gb104, 1, none⟩ = some (.int .i64 ((rd_T50 l1 x20_2).f1)) := (blk_cell BK104.out 1).trans rfl; have hcz81_2 : w80.cell? ⟨gb104, 2, none⟩ = some (.int .i64 ((rd_T50 l1 x20_2).f2)) := (blk_cell BK104.out 2).trans rfl; have hcz81_3 : w80.cell? ⟨gb104, 3, none⟩ = some (.int .i64 ((rd_T50 l1 x20_2).f3)) := (blk_cell BK104.out 3).trans rfl; have hcz81_4 : w80.cell? ⟨gb104, 4, none⟩ = some (.string ((rd_T50 l1 x20_2).f4)) := (blk_cell BK104.out 4).trans rfl; have hfz81_0 := blk_frozen BK104.out 0; have hfz81_1 := blk_frozen BK104.out 1; have hfz81_2 := blk_frozen BK104.out 2; have hfz81_3 := blk_frozen BK104.out 3; have hfz81_4 := blk_frozen BK104.out 4))
             go_ret2
             exact ⟨by first | rfl | (simp [errW_none, errW_some] <;> rfl) | (simp [*, errW_none, errW_some] <;> rfl), by repeat (first | (with_reducible first | exact HB.out | apply below_alloc | apply pw_below_drewN | apply below_drew1 | refine below_set ?_ GE104.out) | exact HB.out)⟩
           · rw [if_neg c46] at H
            have c46b0 : (((rd_T50 l1 x20_2).f2) == 255) = false := beq_eq_false_iff_ne.mpr c46
            have c46b1 : (((rd_T50 l1 x20_2).f2) != 255) = true := bne_iff_ne.mpr c46
            by_cases c82 : ((rd_T50 l1 x20_2).f2) = 254
            · rw [if_pos c82] at H
             have c82b0 : (((rd_T50 l1 x20_2).f2) == 254) = true := beq_iff_eq.mpr c82
             have c82b1 : (((rd_T50 l1 x20_2).f2) != 254) = false := bne_eq_false_iff_eq.mpr c82
             clear c82
             by_cases c83 : ((rd_T50 l1 x20_2).f3) = 0
             · rw [if_pos c83] at H
              have c83b0 : (((rd_T50 l1 x20_2).f3) == 0) = true := beq_iff_eq.mpr c83
              have c83b1 : (((rd_T50 l1 x20_2).f3) != 0) = false := bne_eq_false_iff_eq.mpr c83
              clear c83
              replace H := Option.bind_eq_some_iff.mp H
              obtain ⟨t109, A840, H⟩ := H
              replace H : (if t109 = true then (some (1, 0)) else (if t106 = 0 then (impl_CheckChanges.l0 k2 a0 l1 (l1.length : Int) (wrap64 (x20_2 + 1))) else (some (1, 0)))) = some (r1, r2) := H
              have A84 := Aside0.mk A840
              clear A840
              by_cases c85 : t109 = true
              · subst c85
               have H1 : (some (1, 0)) = some (r1, r2) := by rw [if_pos rfl] at H; exact H
               clear H
               have H := H1
               clear H1
               simp only [Option.some.injEq, Prod.mk.injEq] at H
               obtain ⟨rfl, rfl⟩ := H
               have p103 : 0 ≤ (x20_2 : Int) := of_decide_eq_true (by first | (with_reducible assumption) | assumption)
               have q103 : x20_2 < (l1.length : Int) := of_decide_eq_true (by first | (with_reducible assumption) | assumption)
               obtain ⟨ad103, e103, hx103_0, hx103_1, hx103_2, hx103_3, hx103_4⟩ := at_T50 HR1.out x20_2 p103 q103
               cases e103
               replace hx103_0 := (HB.out.cell (World.block_lt_of_cell? w _ hx103_0)).trans hx103_0
               replace hx103_1 := (HB.out.cell (World.block_lt_of_cell? w _ hx103_1)).trans hx103_1
               replace hx103_2 := (HB.out.cell (World.block_lt_of_cell? w _ hx103_2)).trans hx103_2
               replace hx103_3 := (HB.out.cell (World.block_lt_of_cell? w _ hx103_3)).trans hx103_3
               replace hx103_4 := (HB.out.cell (World.block_lt_of_cell? w _ hx103_4)).trans hx103_4
               replace p103 := eq_true p103
               replace q103 := eq_true q103
               go_wp2_with (first | ((with_reducible refine gate_dst (N := 7) rfl ?_); refine box_event ?hg (N := 7) ?hd (cs := #[.string (⟨#[]⟩ : ByteArray), .int .i64 0, .int .i64 0, .int .i64 0, .string (⟨#[]⟩ : ByteArray)]) (t := 50) ?hr ?_; (case hd => rfl); (case hg => rfl); (case hr => first | (go_simp; done) | (go_simp; rfl)); intro gb104 hg w86 hbox hb; have n0_ := Aside0.mk (below_step (by repeat (first | (with_reducible first | exact HB.out | apply below_alloc | apply pw_below_drewN | apply below_drew1) | exact HB.out)) hb); have n1_ := Aside0.mk (hbox); have n2_ := Aside0.mk ((by rw [hg]; exact (below_size (by repeat (first | (with_reducible first | exact HB.out | apply below_alloc | apply pw_below_drewN | apply below_drew1) | exact HB.out))) : w.heap.size ≤ gb104)); have n3_ := Aside0.mk ((by rw [hg]; exact (below_size (by repeat (first | (with_reducible first | exact HB.out | apply below_alloc | apply pw_below_drewN | apply below_drew1) | exact HB.out))) : w.heap.size ≤ gb104)); clear HB; have HB := n0_; have BK104 := n1_; have GW104 := n2_; have GE104 := n3_; clear n0_ n1_ n2_ n3_; clear hb hbox hg; have hcz87_0 : w86.cell? ⟨gb104, 0, none⟩ = some (.string (⟨#[]⟩ : ByteArray)) := (blk_cell BK104.out 0).trans rfl; have hcz87_1 : w86.cell? ⟨gb104, 1, none⟩ = some (.int .i64 0) := (blk_cell BK104.out 1).trans rfl; have hcz87_2 : w86.cell? ⟨gb104, 2, none⟩ = some (.int .i64 0) := (blk_cell BK104.out 2).trans rfl; have hcz87_3 : w86.cell? ⟨gb104, 3, none⟩ = some (.int .i64 0) := (blk_cell BK104.out 3).trans rfl; have hcz87_4 : w86.cell? ⟨gb104, 4, none⟩ = some (.string (⟨#[]⟩ : ByteArray)) := (blk_cell BK104.out 4).trans rfl; have hfz87_0 := blk_frozen BK104.out 0; have hfz87_1 := blk_frozen BK104.out 1; have hfz87_2 := blk_frozen BK104.out 2; have hfz87_3 := blk_frozen BK104.out 3; have hfz87_4 := blk_frozen BK104.out 4) | ((with_reducible refine gate_callee (f := 28) rfl ?_); refine goesL_ (some 27) rfl rfl Tryd.func28 (by kernel_rfl) rfl #[.string ((rd_T50 l1 x20_2).f0), .string a0] rfl (by (try simp only [List.map_toArray, List.map_cons, List.map_nil]); first | done | rfl | (simp only [List.length_drop, List.length_take]; rfl)) ?_; (with_reducible refine (impl_IsUnder.calls k2 ((rd_T50 l1 x20_2).f0) a0 true _ A14.out).mono ?_); rintro e w88 ⟨rfl, hb⟩; refine ⟨_, rfl, ?_⟩; have n0_ := Aside0.mk (blk_below (g := gb104) (o := .cells #[.string ((rd_T50 l1 x20_2).f0), .int .i64 ((rd_T50 l1 x20_2).f1), .int .i64 ((rd_T50 l1 x20_2).f2), .int .i64 ((rd_T50 l1 x20_2).f3), .string ((rd_T50 l1 x20_2).f4)] 50 (0, 0)) (by (with_reducible repeat (first | refine blk_drewN ?_ _ | refine blk_drew ?_ | refine blk_alloc ?_ _)); refine blk_put (cs := #[.string ((rd_T50 l1 x20_2).f0), .int .i64 ((rd_T50 l1 x20_2).f1), .int .i64 ((rd_T50 l1 x20_2).f2), .int .i64 ((rd_T50 l1 x20_2).f3), .string (⟨#[]⟩ : ByteArray)]) ?_ 4 _ rfl; (with_reducible repeat (first | refine blk_drewN ?_ _ | refine blk_drew ?_ | refine blk_alloc ?_ _)); refine blk_put (cs := #[.string ((rd_T50 l1 x20_2).f0), .int .i64 ((rd_T50 l1 x20_2).f1), .int .i64 ((rd_T50 l1 x20_2).f2), .int .i64 0, .string (⟨#[]⟩ : ByteArray)]) ?_ 3 _ rfl; (with_reducible repeat (first | refine blk_drewN ?_ _ | refine blk_drew ?_ | refine blk_alloc ?_ _)); refine blk_put (cs := #[.string ((rd_T50 l1 x20_2).f0), .int .i64 ((rd_T50 l1 x20_2).f1), .int .i64 0, .int .i64 0, .string (⟨#[]⟩ : ByteArray)]) ?_ 2 _ rfl; (with_reducible repeat (first | refine blk_drewN ?_ _ | refine blk_drew ?_ | refine blk_alloc ?_ _)); refine blk_put (cs := #[.string ((rd_T50 l1 x20_2).f0), .int .i64 0, .int .i64 0, .int .i64 0, .string (⟨#[]⟩ : ByteArray)]) ?_ 1 _ rfl; (with_reducible repeat (first | refine blk_drewN ?_ _ | refine blk_drew ?_ | refine blk_alloc ?_ _)); refine blk_put (cs := #[.string (⟨#[]⟩ : ByteArray), .int .i64 0, .int .i64 0, .int .i64 0, .string (⟨#[]⟩ : ByteArray)]) ?_ 0 _ rfl; (with_reducible repeat (first | refine blk_drewN ?_ _ | refine blk_drew ?_ | refine blk_alloc ?_ _)); exact BK104.out) hb); have n1_ := Aside0.mk (below_step (by repeat (first | (with_reducible first | exact HB.out | apply below_alloc | apply pw_below_drewN | apply below_drew1 | refine below_set ?_ GE104.out) | exact HB.out)) hb); clear BK104; clear HB; have BK104 := n0_; have HB := n1_; clear n0_ n1_; (try clear hb); (try clear hb2); (try clear hk); (try clear hi); have hcz89_0 : w88.cell? ⟨gb104, 0, none⟩ = some (.string ((rd_T50 l1 x20_2).f0)) := (blk_cell BK104.out 0).trans rfl; have hcz89_1 : w88.cell? ⟨gb104, 1, none⟩ = some (.int .i64 ((rd_T50 l1 x20_2).f1)) := (blk_cell BK104.out 1).trans rfl; have hcz89_2 : w88.cell? ⟨gb104, 2, none⟩ = some (.int .i64 ((rd_T50 l1 x20_2).f2)) := (blk_cell BK104.out 2).trans rfl; have hcz89_3 : w88.cell? ⟨gb104, 3, none⟩ = some (.int .i64 ((rd_T50 l1 x20_2).f3)) := (blk_cell BK104.out 3).trans rfl; have hcz89_4 : w88.cell? ⟨gb104, 4, none⟩ = some (.string ((rd_T50 l1 x20_2).f4)) := (blk_cell BK104.out 4).trans rfl; have hfz89_0 := blk_frozen BK104.out 0; have hfz89_1 := blk_frozen BK104.out 1; have hfz89_2 := blk_frozen BK104.out 2; have hfz89_3 := blk_frozen BK104.out 3; have hfz89_4 := blk_frozen BK104.out 4) | ((with_reducible refine gate_callee (f := 29) rfl ?_); refine goesL_ (some 33) rfl rfl Tryd.func29 (by kernel_rfl) rfl #[.int .i64 ((rd_T50 l1 x20_2).f1), .string ((rd_T50 l1 x20_2).f4)] rfl (by (try simp only [List.map_toArray, List.map_cons, List.map_nil]); first | done | rfl | (simp only [List.length_drop, List.length_take]; rfl)) ?_; (with_reducible refine (impl_CheckData.calls k2 ((rd_T50 l1 x20_2).f1) ((rd_T50 l1 x20_2).f4) t106 _ A16.out (HG.out.below (by repeat (first | (with_reducible first | exact HB.out | apply below_alloc | apply pw_below_drewN | apply below_drew1 | refine below_set ?_ GE104.out) | exact HB.out)))).mono ?_); rintro e w90 ⟨rfl, hb⟩; refine ⟨_, rfl, ?_⟩; have n0_ := Aside0.mk (blk_below (g := gb104) (o := .cells #[.string ((rd_T50 l1 x20_2).f0), .int .i64 ((rd_T50 l1 x20_2).f1), .int .i64 ((rd_T50 l1 x20_2).f2), .int .i64 ((rd_T50 l1 x20_2).f3), .string ((rd_T50 l1 x20_2).f4)] 50 (0, 0)) (by (with_reducible repeat (first | refine blk_drewN ?_ _ | refine blk_drew ?_ | refine blk_alloc ?_ _)); exact BK104.out) hb); have n1_ := Aside0.mk (below_step (by repeat (first | (with_reducible first | exact HB.out | apply below_alloc | apply pw_below_drewN | apply below_drew1 | refine below_set ?_ GE104.out) | exact HB.out)) hb); clear BK104; clear HB; have BK104 := n0_; have HB := n1_; clear n0_ n1_; (try clear hb); (try clear hb2); (try clear hk); (try clear hi); have hcz91_0 : w90.cell? ⟨gb104, 0, none⟩ = some (.string ((rd_T50 l1 x20_2).f0)) := (blk_cell BK104.out 0).trans rfl; have hcz91_1 : w90.cell? ⟨gb104, 1, none⟩ = some (.int .i64 ((rd_T50 l1 x20_2).f1)) := (blk_cell BK104.out 1).trans rfl; have hcz91_2 : w90.cell? ⟨gb104, 2, none⟩ = some (.int .i64 ((rd_T50 l1 x20_2).f2)) := (blk_cell BK104.out 2).trans rfl; have hcz91_3 : w90.cell? ⟨gb104, 3, none⟩ = some (.int .i64 ((rd_T50 l1 x20_2).f3)) := (blk_cell BK104.out 3).trans rfl; have hcz91_4 : w90.cell? ⟨gb104, 4, none⟩ = some (.string ((rd_T50 l1 x20_2).f4)) := (blk_cell BK104.out 4).trans rfl; have hfz91_0 := blk_frozen BK104.out 0; have hfz91_1 := blk_frozen BK104.out 1; have hfz91_2 := blk_frozen BK104.out 2; have hfz91_3 := blk_frozen BK104.out 3; have hfz91_4 := blk_frozen BK104.out 4) | (go_at_call 30; (with_reducible refine (impl_isMeta.calls ((rd_T50 l1 x20_2).f1) true _ A84.out).mono ?_); rintro e w' ⟨rfl, ⟨nd, rfl⟩⟩))
               go_ret2
               exact ⟨by first | rfl | (simp [errW_none, errW_some] <;> rfl) | (simp [*, errW_none, errW_some] <;> rfl), by repeat (first | (with_reducible first | exact HB.out | apply below_alloc | apply pw_below_drewN | apply below_drew1 | refine below_set ?_ GE104.out) | exact HB.out)⟩
              · replace c85 := Bool.eq_false_iff.mpr c85
               subst c85
               have H1 : (if t106 = 0 then (impl_CheckChanges.l0 k2 a0 l1 (l1.length : Int) (wrap64 (x20_2 + 1))) else (some (1, 0))) = some (r1, r2) := by rw [if_neg (show ¬ (false = true) by decide)] at H; exact H
               clear H
               have H := H1
               clear H1
               by_cases c92 : t106 = 0
               · rw [if_pos c92] at H
                have c92b0 : (t106 == 0) = true := beq_iff_eq.mpr c92
                have c92b1 : (t106 != 0) = false := bne_eq_false_iff_eq.mpr c92
                clear c92
                have H' := Aside0.mk H
                clear H
                have p103 : 0 ≤ (x20_2 : Int) := of_decide_eq_true (by first | (with_reducible assumption) | assumption)
                have q103 : x20_2 < (l1.length : Int) := of_decide_eq_true (by first | (with_reducible assumption) | assumption)
                obtain ⟨ad103, e103, hx103_0, hx103_1, hx103_2, hx103_3, hx103_4⟩ := at_T50 HR1.out x20_2 p103 q103
                cases e103
                replace hx103_0 := (HB.out.cell (World.block_lt_of_cell? w _ hx103_0)).trans hx103_0
                replace hx103_1 := (HB.out.cell (World.block_lt_of_cell? w _ hx103_1)).trans hx103_1
                replace hx103_2 := (HB.out.cell (World.block_lt_of_cell? w _ hx103_2)).trans hx103_2
                replace hx103_3 := (HB.out.cell (World.block_lt_of_cell? w _ hx103_3)).trans hx103_3
                replace hx103_4 := (HB.out.cell (World.block_lt_of_cell? w _ hx103_4)).trans hx103_4
                replace p103 := eq_true p103
                replace q103 := eq_true q103
                go_wp2_with (first | ((with_reducible refine gate_dst (N := 7) rfl ?_); refine box_event ?hg (N := 7) ?hd (cs := #[.string (⟨#[]⟩ : ByteArray), .int .i64 0, .int .i64 0, .int .i64 0, .string (⟨#[]⟩ : ByteArray)]) (t := 50) ?hr ?_; (case hd => rfl); (case hg => rfl); (case hr => first | (go_simp; done) | (go_simp; rfl)); intro gb104 hg w93 hbox hb; have n0_ := Aside0.mk (below_step (by repeat (first | (with_reducible first | exact HB.out | apply below_alloc | apply pw_below_drewN | apply below_drew1) | exact HB.out)) hb); have n1_ := Aside0.mk (hbox); have n2_ := Aside0.mk ((by rw [hg]; exact (below_size (by repeat (first | (with_reducible first | exact HB.out | apply below_alloc | apply pw_below_drewN | apply below_drew1) | exact HB.out))) : w.heap.size ≤ gb104)); have n3_ := Aside0.mk ((by rw [hg]; exact (below_size (by repeat (first | (with_reducible first | exact HB.out | apply below_alloc | apply pw_below_drewN | apply below_drew1) | exact HB.out))) : w.heap.size ≤ gb104)); clear HB; have HB := n0_; have BK104 := n1_; have GW104 := n2_; have GE104 := n3_; clear n0_ n1_ n2_ n3_; clear hb hbox hg; have hcz94_0 : w93.cell? ⟨gb104, 0, none⟩ = some (.string (⟨#[]⟩ : ByteArray)) := (blk_cell BK104.out 0).trans rfl; have hcz94_1 : w93.cell? ⟨gb104, 1, none⟩ = some (.int .i64 0) := (blk_cell BK104.out 1).trans rfl; have hcz94_2 : w93.cell? ⟨gb104, 2, none⟩ = some (.int .i64 0) := (blk_cell BK104.out 2).trans rfl; have hcz94_3 : w93.cell? ⟨gb104, 3, none⟩ = some (.int .i64 0) := (blk_cell BK104.out 3).trans rfl; have hcz94_4 : w93.cell? ⟨gb104, 4, none⟩ = some (.string (⟨#[]⟩ : ByteArray)) := (blk_cell BK104.out 4).trans rfl; have hfz94_0 := blk_frozen BK104.out 0; have hfz94_1 := blk_frozen BK104.out 1; have hfz94_2 := blk_frozen BK104.out 2; have hfz94_3 := blk_frozen BK104.out 3; have hfz94_4 := blk_frozen BK104.out 4) | ((with_reducible refine gate_callee (f := 28) rfl ?_); refine goesL_ (some 27) rfl rfl Tryd.func28 (by kernel_rfl) rfl #[.string ((rd_T50 l1 x20_2).f0), .string a0] rfl (by (try simp only [List.map_toArray, List.map_cons, List.map_nil]); first | done | rfl | (simp only [List.length_drop, List.length_take]; rfl)) ?_; (with_reducible refine (impl_IsUnder.calls k2 ((rd_T50 l1 x20_2).f0) a0 true _ A14.out).mono ?_); rintro e w95 ⟨rfl, hb⟩; refine ⟨_, rfl, ?_⟩; have n0_ := Aside0.mk (blk_below (g := gb104) (o := .cells #[.string ((rd_T50 l1 x20_2).f0), .int .i64 ((rd_T50 l1 x20_2).f1), .int .i64 ((rd_T50 l1 x20_2).f2), .int .i64 ((rd_T50 l1 x20_2).f3), .string ((rd_T50 l1 x20_2).f4)] 50 (0, 0)) (by (with_reducible repeat (first | refine blk_drewN ?_ _ | refine blk_drew ?_ | refine blk_alloc ?_ _)); refine blk_put (cs := #[.string ((rd_T50 l1 x20_2).f0), .int .i64 ((rd_T50 l1 x20_2).f1), .int .i64 ((rd_T50 l1 x20_2).f2), .int .i64 ((rd_T50 l1 x20_2).f3), .string (⟨#[]⟩ : ByteArray)]) ?_ 4 _ rfl; (with_reducible repeat (first | refine blk_drewN ?_ _ | refine blk_drew ?_ | refine blk_alloc ?_ _)); refine blk_put (cs := #[.string ((rd_T50 l1 x20_2).f0), .int .i64 ((rd_T50 l1 x20_2).f1), .int .i64 ((rd_T50 l1 x20_2).f2), .int .i64 0, .string (⟨#[]⟩ : ByteArray)]) ?_ 3 _ rfl; (with_reducible repeat (first | refine blk_drewN ?_ _ | refine blk_drew ?_ | refine blk_alloc ?_ _)); refine blk_put (cs := #[.string ((rd_T50 l1 x20_2).f0), .int .i64 ((rd_T50 l1 x20_2).f1), .int .i64 0, .int .i64 0, .string (⟨#[]⟩ : ByteArray)]) ?_ 2 _ rfl; (with_reducible repeat (first | refine blk_drewN ?_ _ | refine blk_drew ?_ | refine blk_alloc ?_ _)); refine blk_put (cs := #[.string ((rd_T50 l1 x20_2).f0), .int .i64 0, .int .i64 0, .int .i64 0, .string (⟨#[]⟩ : ByteArray)]) ?_ 1 _ rfl; (with_reducible repeat (first | refine blk_drewN ?_ _ | refine blk_drew ?_ | refine blk_alloc ?_ _)); refine blk_put (cs := #[.string (⟨#[]⟩ : ByteArray), .int .i64 0, .int .i64 0, .int .i64 0, .string (⟨#[]⟩ : ByteArray)]) ?_ 0 _ rfl; (with_reducible repeat (first | refine blk_drewN ?_ _ | refine blk_drew ?_ | refine blk_alloc ?_ _)); exact BK104.out) hb); have n1_ := Aside0.mk (below_step (by repeat (first | (with_reducible first | exact HB.out | apply below_alloc | apply pw_below_drewN | apply below_drew1 | refine below_set ?_ GE104.out) | exact HB.out)) hb); clear BK104; clear HB; have BK104 := n0_; have HB := n1_; clear n0_ n1_; (try clear hb); (try clear hb2); (try clear hk); (try clear hi); have hcz96_0 : w95.cell? ⟨gb104, 0, none⟩ = some (.string ((rd_T50 l1 x20_2).f0)) := (blk_cell BK104.out 0).trans rfl; have hcz96_1 : w95.cell? ⟨gb104, 1, none⟩ = some (.int .i64 ((rd_T50 l1 x20_2).f1)) := (blk_cell BK104.out 1).trans rfl; have hcz96_2 : w95.cell? ⟨gb104, 2, none⟩ = some (.int .i64 ((rd_T50 l1 x20_2).f2)) := (blk_cell BK104.out 2).trans rfl; have hcz96_3 : w95.cell? ⟨gb104, 3, none⟩ = some (.int .i64 ((rd_T50 l1 x20_2).f3)) := (blk_cell BK104.out 3).trans rfl; have hcz96_4 : w95.cell? ⟨gb104, 4, none⟩ = some (.string ((rd_T50 l1 x20_2).f4)) := (blk_cell BK104.out 4).trans rfl; have hfz96_0 := blk_frozen BK104.out 0; have hfz96_1 := blk_frozen BK104.out 1; have hfz96_2 := blk_frozen BK104.out 2; have hfz96_3 := blk_frozen BK104.out 3; have hfz96_4 := blk_frozen BK104.out 4) | ((with_reducible refine gate_callee (f := 29) rfl ?_); refine goesL_ (some 33) rfl rfl Tryd.func29 (by kernel_rfl) rfl #[.int .i64 ((rd_T50 l1 x20_2).f1), .string ((rd_T50 l1 x20_2).f4)] rfl (by (try simp only [List.map_toArray, List.map_cons, List.map_nil]); first | done | rfl | (simp only [List.length_drop, List.length_take]; rfl)) ?_; (with_reducible refine (impl_CheckData.calls k2 ((rd_T50 l1 x20_2).f1) ((rd_T50 l1 x20_2).f4) t106 _ A16.out (HG.out.below (by repeat (first | (with_reducible first | exact HB.out | apply below_alloc | apply pw_below_drewN | apply below_drew1 | refine below_set ?_ GE104.out) | exact HB.out)))).mono ?_); rintro e w97 ⟨rfl, hb⟩; refine ⟨_, rfl, ?_⟩; have n0_ := Aside0.mk (blk_below (g := gb104) (o := .cells #[.string ((rd_T50 l1 x20_2).f0), .int .i64 ((rd_T50 l1 x20_2).f1), .int .i64 ((rd_T50 l1 x20_2).f2), .int .i64 ((rd_T50 l1 x20_2).f3), .string ((rd_T50 l1 x20_2).f4)] 50 (0, 0)) (by (with_reducible repeat (first | refine blk_drewN ?_ _ | refine blk_drew ?_ | refine blk_alloc ?_ _)); exact BK104.out) hb); have n1_ := Aside0.mk (below_step (by repeat (first | (with_reducible first | exact HB.out | apply below_alloc | apply pw_below_drewN | apply below_drew1 | refine below_set ?_ GE104.out) | exact HB.out)) hb); clear BK104; clear HB; have BK104 := n0_; have HB := n1_; clear n0_ n1_; (try clear hb); (try clear hb2); (try clear hk); (try clear hi); have hcz98_0 : w97.cell? ⟨gb104, 0, none⟩ = some (.string ((rd_T50 l1 x20_2).f0)) := (blk_cell BK104.out 0).trans rfl; have hcz98_1 : w97.cell? ⟨gb104, 1, none⟩ = some (.int .i64 ((rd_T50 l1 x20_2).f1)) := (blk_cell BK104.out 1).trans rfl; have hcz98_2 : w97.cell? ⟨gb104, 2, none⟩ = some (.int .i64 ((rd_T50 l1 x20_2).f2)) := (blk_cell BK104.out 2).trans rfl; have hcz98_3 : w97.cell? ⟨gb104, 3, none⟩ = some (.int .i64 ((rd_T50 l1 x20_2).f3)) := (blk_cell BK104.out 3).trans rfl; have hcz98_4 : w97.cell? ⟨gb104, 4, none⟩ = some (.string ((rd_T50 l1 x20_2).f4)) := (blk_cell BK104.out 4).trans rfl; have hfz98_0 := blk_frozen BK104.out 0; have hfz98_1 := blk_frozen BK104.out 1; have hfz98_2 := blk_frozen BK104.out 2; have hfz98_3 := blk_frozen BK104.out 3; have hfz98_4 := blk_frozen BK104.out 4) | (go_at_call 30; (with_reducible refine (impl_isMeta.calls ((rd_T50 l1 x20_2).f1) false _ A84.out).mono ?_); rintro e w' ⟨rfl, ⟨nd, rfl⟩⟩))
                go_roundg k2
                case measure => have := HJ2.out; have := HK2.out; omega
                case rel => exact ⟨(wrap64 (x20_2 + 1)), (by first | rfl | (simp; done) | (simp [*]; done)), H', ⟨by have := HJ2.out; have := HK2.out; omega⟩, ⟨by repeat (first | (with_reducible first | exact HB.out | apply below_alloc | apply pw_below_drewN | apply below_drew1 | refine below_set ?_ GE104.out) | exact HB.out)⟩⟩
               · rw [if_neg c92] at H
                have c92b0 : (t106 == 0) = false := beq_eq_false_iff_ne.mpr c92
                have c92b1 : (t106 != 0) = true := bne_iff_ne.mpr c92
                simp only [Option.some.injEq, Prod.mk.injEq] at H
                obtain ⟨rfl, rfl⟩ := H
                have p103 : 0 ≤ (x20_2 : Int) := of_decide_eq_true (by first | (with_reducible assumption) | assumption)
                have q103 : x20_2 < (l1.length : Int) := of_decide_eq_true (by first | (with_reducible assumption) | assumption)
                obtain ⟨ad103, e103, hx103_0, hx103_1, hx103_2, hx103_3, hx103_4⟩ := at_T50 HR1.out x20_2 p103 q103
                cases e103
                replace hx103_0 := (HB.out.cell (World.block_lt_of_cell? w _ hx103_0)).trans hx103_0
                replace hx103_1 := (HB.out.cell (World.block_lt_of_cell? w _ hx103_1)).trans hx103_1
                replace hx103_2 := (HB.out.cell (World.block_lt_of_cell? w _ hx103_2)).trans hx103_2
                replace hx103_3 := (HB.out.cell (World.block_lt_of_cell? w _ hx103_3)).trans hx103_3
                replace hx103_4 := (HB.out.cell (World.block_lt_of_cell? w _ hx103_4)).trans hx103_4
                replace p103 := eq_true p103
                replace q103 := eq_true q103
                go_wp2_with (first | ((with_reducible refine gate_dst (N := 7) rfl ?_); refine box_event ?hg (N := 7) ?hd (cs := #[.string (⟨#[]⟩ : ByteArray), .int .i64 0, .int .i64 0, .int .i64 0, .string (⟨#[]⟩ : ByteArray)]) (t := 50) ?hr ?_; (case hd => rfl); (case hg => rfl); (case hr => first | (go_simp; done) | (go_simp; rfl)); intro gb104 hg w99 hbox hb; have n0_ := Aside0.mk (below_step (by repeat (first | (with_reducible first | exact HB.out | apply below_alloc | apply pw_below_drewN | apply below_drew1) | exact HB.out)) hb); have n1_ := Aside0.mk (hbox); have n2_ := Aside0.mk ((by rw [hg]; exact (below_size (by repeat (first | (with_reducible first | exact HB.out | apply below_alloc | apply pw_below_drewN | apply below_drew1) | exact HB.out))) : w.heap.size ≤ gb104)); have n3_ := Aside0.mk ((by rw [hg]; exact (below_size (by repeat (first | (with_reducible first | exact HB.out | apply below_alloc | apply pw_below_drewN | apply below_drew1) | exact HB.out))) : w.heap.size ≤ gb104)); clear HB; have HB := n0_; have BK104 := n1_; have GW104 := n2_; have GE104 := n3_; clear n0_ n1_ n2_ n3_; clear hb hbox hg; have hcz100_0 : w99.cell? ⟨gb104, 0, none⟩ = some (.string (⟨#[]⟩ : ByteArray)) := (blk_cell BK104.out 0).trans rfl; have hcz100_1 : w99.cell? ⟨gb104, 1, none⟩ = some (.int .i64 0) := (blk_cell BK104.out 1).trans rfl; have hcz100_2 : w99.cell? ⟨gb104, 2, none⟩ = some (.int .i64 0) := (blk_cell BK104.out 2).trans rfl; have hcz100_3 : w99.cell? ⟨gb104, 3, none⟩ = some (.int .i64 0) := (blk_cell BK104.out 3).trans rfl; have hcz100_4 : w99.cell? ⟨gb104, 4, none⟩ = some (.string (⟨#[]⟩ : ByteArray)) := (blk_cell BK104.out 4).trans rfl; have hfz100_0 := blk_frozen BK104.out 0; have hfz100_1 := blk_frozen BK104.out 1; have hfz100_2 := blk_frozen BK104.out 2; have hfz100_3 := blk_frozen BK104.out 3; have hfz100_4 := blk_frozen BK104.out 4) | ((with_reducible refine gate_callee (f := 28) rfl ?_); refine goesL_ (some 27) rfl rfl Tryd.func28 (by kernel_rfl) rfl #[.string ((rd_T50 l1 x20_2).f0), .string a0] rfl (by (try simp only [List.map_toArray, List.map_cons, List.map_nil]); first | done | rfl | (simp only [List.length_drop, List.length_take]; rfl)) ?_; (with_reducible refine (impl_IsUnder.calls k2 ((rd_T50 l1 x20_2).f0) a0 true _ A14.out).mono ?_); rintro e w101 ⟨rfl, hb⟩; refine ⟨_, rfl, ?_⟩; have n0_ := Aside0.mk (blk_below (g := gb104) (o := .cells #[.string ((rd_T50 l1 x20_2).f0), .int .i64 ((rd_T50 l1 x20_2).f1), .int .i64 ((rd_T50 l1 x20_2).f2), .int .i64 ((rd_T50 l1 x20_2).f3), .string ((rd_T50 l1 x20_2).f4)] 50 (0, 0)) (by (with_reducible repeat (first | refine blk_drewN ?_ _ | refine blk_drew ?_ | refine blk_alloc ?_ _)); refine blk_put (cs := #[.string ((rd_T50 l1 x20_2).f0), .int .i64 ((rd_T50 l1 x20_2).f1), .int .i64 ((rd_T50 l1 x20_2).f2), .int .i64 ((rd_T50 l1 x20_2).f3), .string (⟨#[]⟩ : ByteArray)]) ?_ 4 _ rfl; (with_reducible repeat (first | refine blk_drewN ?_ _ | refine blk_drew ?_ | refine blk_alloc ?_ _)); refine blk_put (cs := #[.string ((rd_T50 l1 x20_2).f0), .int .i64 ((rd_T50 l1 x20_2).f1), .int .i64 ((rd_T50 l1 x20_2).f2), .int .i64 0, .string (⟨#[]⟩ : ByteArray)]) ?_ 3 _ rfl; (with_reducible repeat (first | refine blk_drewN ?_ _ | refine blk_drew ?_ | refine blk_alloc ?_ _)); refine blk_put (cs := #[.string ((rd_T50 l1 x20_2).f0), .int .i64 ((rd_T50 l1 x20_2).f1), .int .i64 0, .int .i64 0, .string (⟨#[]⟩ : ByteArray)]) ?_ 2 _ rfl; (with_reducible repeat (first | refine blk_drewN ?_ _ | refine blk_drew ?_ | refine blk_alloc ?_ _)); refine blk_put (cs := #[.string ((rd_T50 l1 x20_2).f0), .int .i64 0, .int .i64 0, .int .i64 0, .string (⟨#[]⟩ : ByteArray)]) ?_ 1 _ rfl; (with_reducible repeat (first | refine blk_drewN ?_ _ | refine blk_drew ?_ | refine blk_alloc ?_ _)); refine blk_put (cs := #[.string (⟨#[]⟩ : ByteArray), .int .i64 0, .int .i64 0, .int .i64 0, .string (⟨#[]⟩ : ByteArray)]) ?_ 0 _ rfl; (with_reducible repeat (first | refine blk_drewN ?_ _ | refine blk_drew ?_ | refine blk_alloc ?_ _)); exact BK104.out) hb); have n1_ := Aside0.mk (below_step (by repeat (first | (with_reducible first | exact HB.out | apply below_alloc | apply pw_below_drewN | apply below_drew1 | refine below_set ?_ GE104.out) | exact HB.out)) hb); clear BK104; clear HB; have BK104 := n0_; have HB := n1_; clear n0_ n1_; (try clear hb); (try clear hb2); (try clear hk); (try clear hi); have hcz102_0 : w101.cell? ⟨gb104, 0, none⟩ = some (.string ((rd_T50 l1 x20_2).f0)) := (blk_cell BK104.out 0).trans rfl; have hcz102_1 : w101.cell? ⟨gb104, 1, none⟩ = some (.int .i64 ((rd_T50 l1 x20_2).f1)) := (blk_cell BK104.out 1).trans rfl; have hcz102_2 : w101.cell? ⟨gb104, 2, none⟩ = some (.int .i64 ((rd_T50 l1 x20_2).f2)) := (blk_cell BK104.out 2).trans rfl; have hcz102_3 : w101.cell? ⟨gb104, 3, none⟩ = some (.int .i64 ((rd_T50 l1 x20_2).f3)) := (blk_cell BK104.out 3).trans rfl; have hcz102_4 : w101.cell? ⟨gb104, 4, none⟩ = some (.string ((rd_T50 l1 x20_2).f4)) := (blk_cell BK104.out 4).trans rfl; have hfz102_0 := blk_frozen BK104.out 0; have hfz102_1 := blk_frozen BK104.out 1; have hfz102_2 := blk_frozen BK104.out 2; have hfz102_3 := blk_frozen BK104.out 3; have hfz102_4 := blk_frozen BK104.out 4) | ((with_reducible refine gate_callee (f := 29) rfl ?_); refine goesL_ (some 33) rfl rfl Tryd.func29 (by kernel_rfl) rfl #[.int .i64 ((rd_T50 l1 x20_2).f1), .string ((rd_T50 l1 x20_2).f4)] rfl (by (try simp only [List.map_toArray, List.map_cons, List.map_nil]); first | done | rfl | (simp only [List.length_drop, List.length_take]; rfl)) ?_; (with_reducible refine (impl_CheckData.calls k2 ((rd_T50 l1 x20_2).f1) ((rd_T50 l1 x20_2).f4) t106 _ A16.out (HG.out.below (by repeat (first | (with_reducible first | exact HB.out | apply below_alloc | apply pw_below_drewN | apply below_drew1 | refine below_set ?_ GE104.out) | exact HB.out)))).mono ?_); rintro e w103 ⟨rfl, hb⟩; refine ⟨_, rfl, ?_⟩; have n0_ := Aside0.mk (blk_below (g := gb104) (o := .cells #[.string ((rd_T50 l1 x20_2).f0), .int .i64 ((rd_T50 l1 x20_2).f1), .int .i64 ((rd_T50 l1 x20_2).f2), .int .i64 ((rd_T50 l1 x20_2).f3), .string ((rd_T50 l1 x20_2).f4)] 50 (0, 0)) (by (with_reducible repeat (first | refine blk_drewN ?_ _ | refine blk_drew ?_ | refine blk_alloc ?_ _)); exact BK104.out) hb); have n1_ := Aside0.mk (below_step (by repeat (first | (with_reducible first | exact HB.out | apply below_alloc | apply pw_below_drewN | apply below_drew1 | refine below_set ?_ GE104.out) | exact HB.out)) hb); clear BK104; clear HB; have BK104 := n0_; have HB := n1_; clear n0_ n1_; (try clear hb); (try clear hb2); (try clear hk); (try clear hi); have hcz104_0 : w103.cell? ⟨gb104, 0, none⟩ = some (.string ((rd_T50 l1 x20_2).f0)) := (blk_cell BK104.out 0).trans rfl; have hcz104_1 : w103.cell? ⟨gb104, 1, none⟩ = some (.int .i64 ((rd_T50 l1 x20_2).f1)) := (blk_cell BK104.out 1).trans rfl; have hcz104_2 : w103.cell? ⟨gb104, 2, none⟩ = some (.int .i64 ((rd_T50 l1 x20_2).f2)) := (blk_cell BK104.out 2).trans rfl; have hcz104_3 : w103.cell? ⟨gb104, 3, none⟩ = some (.int .i64 ((rd_T50 l1 x20_2).f3)) := (blk_cell BK104.out 3).trans rfl; have hcz104_4 : w103.cell? ⟨gb104, 4, none⟩ = some (.string ((rd_T50 l1 x20_2).f4)) := (blk_cell BK104.out 4).trans rfl; have hfz104_0 := blk_frozen BK104.out 0; have hfz104_1 := blk_frozen BK104.out 1; have hfz104_2 := blk_frozen BK104.out 2; have hfz104_3 := blk_frozen BK104.out 3; have hfz104_4 := blk_frozen BK104.out 4) | (go_at_call 30; (with_reducible refine (impl_isMeta.calls ((rd_T50 l1 x20_2).f1) false _ A84.out).mono ?_); rintro e w' ⟨rfl, ⟨nd, rfl⟩⟩))
                go_ret2
                exact ⟨by first | rfl | (simp [errW_none, errW_some] <;> rfl) | (simp [*, errW_none, errW_some] <;> rfl), by repeat (first | (with_reducible first | exact HB.out | apply below_alloc | apply pw_below_drewN | apply below_drew1 | refine below_set ?_ GE104.out) | exact HB.out)⟩
             · rw [if_neg c83] at H
              have c83b0 : (((rd_T50 l1 x20_2).f3) == 0) = false := beq_eq_false_iff_ne.mpr c83
              have c83b1 : (((rd_T50 l1 x20_2).f3) != 0) = true := bne_iff_ne.mpr c83
              simp only [Option.some.injEq, Prod.mk.injEq] at H
              obtain ⟨rfl, rfl⟩ := H
              have p103 : 0 ≤ (x20_2 : Int) := of_decide_eq_true (by first | (with_reducible assumption) | assumption)
              have q103 : x20_2 < (l1.length : Int) := of_decide_eq_true (by first | (with_reducible assumption) | assumption)
              obtain ⟨ad103, e103, hx103_0, hx103_1, hx103_2, hx103_3, hx103_4⟩ := at_T50 HR1.out x20_2 p103 q103
              cases e103
              replace hx103_0 := (HB.out.cell (World.block_lt_of_cell? w _ hx103_0)).trans hx103_0
              replace hx103_1 := (HB.out.cell (World.block_lt_of_cell? w _ hx103_1)).trans hx103_1
              replace hx103_2 := (HB.out.cell (World.block_lt_of_cell? w _ hx103_2)).trans hx103_2
              replace hx103_3 := (HB.out.cell (World.block_lt_of_cell? w _ hx103_3)).trans hx103_3
              replace hx103_4 := (HB.out.cell (World.block_lt_of_cell? w _ hx103_4)).trans hx103_4
              replace p103 := eq_true p103
              replace q103 := eq_true q103
              go_wp2_with (first | ((with_reducible refine gate_dst (N := 7) rfl ?_); refine box_event ?hg (N := 7) ?hd (cs := #[.string (⟨#[]⟩ : ByteArray), .int .i64 0, .int .i64 0, .int .i64 0, .string (⟨#[]⟩ : ByteArray)]) (t := 50) ?hr ?_; (case hd => rfl); (case hg => rfl); (case hr => first | (go_simp; done) | (go_simp; rfl)); intro gb104 hg w105 hbox hb; have n0_ := Aside0.mk (below_step (by repeat (first | (with_reducible first | exact HB.out | apply below_alloc | apply pw_below_drewN | apply below_drew1) | exact HB.out)) hb); have n1_ := Aside0.mk (hbox); have n2_ := Aside0.mk ((by rw [hg]; exact (below_size (by repeat (first | (with_reducible first | exact HB.out | apply below_alloc | apply pw_below_drewN | apply below_drew1) | exact HB.out))) : w.heap.size ≤ gb104)); have n3_ := Aside0.mk ((by rw [hg]; exact (below_size (by repeat (first | (with_reducible first | exact HB.out | apply below_alloc | apply pw_below_drewN | apply below_drew1) | exact HB.out))) : w.heap.size ≤ gb104)); clear HB; have HB := n0_; have BK104 := n1_; have GW104 := n2_; have GE104 := n3_; clear n0_ n1_ n2_ n3_; clear hb hbox hg; have hcz106_0 : w105.cell? ⟨gb104, 0, none⟩ = some (.string (⟨#[]⟩ : ByteArray)) := (blk_cell BK104.out 0).trans rfl; have hcz106_1 : w105.cell? ⟨gb104, 1, none⟩ = some (.int .i64 0) := (blk_cell BK104.out 1).trans rfl; have hcz106_2 : w105.cell? ⟨gb104, 2, none⟩ = some (.int .i64 0) := (blk_cell BK104.out 2).trans rfl; have hcz106_3 : w105.cell? ⟨gb104, 3, none⟩ = some (.int .i64 0) := (blk_cell BK104.out 3).trans rfl; have hcz106_4 : w105.cell? ⟨gb104, 4, none⟩ = some (.string (⟨#[]⟩ : ByteArray)) := (blk_cell BK104.out 4).trans rfl; have hfz106_0 := blk_frozen BK104.out 0; have hfz106_1 := blk_frozen BK104.out 1; have hfz106_2 := blk_frozen BK104.out 2; have hfz106_3 := blk_frozen BK104.out 3; have hfz106_4 := blk_frozen BK104.out 4) | ((with_reducible refine gate_callee (f := 28) rfl ?_); refine goesL_ (some 27) rfl rfl Tryd.func28 (by kernel_rfl) rfl #[.string ((rd_T50 l1 x20_2).f0), .string a0] rfl (by (try simp only [List.map_toArray, List.map_cons, List.map_nil]); first | done | rfl | (simp only [List.length_drop, List.length_take]; rfl)) ?_; (with_reducible refine (impl_IsUnder.calls k2 ((rd_T50 l1 x20_2).f0) a0 true _ A14.out).mono ?_); rintro e w107 ⟨rfl, hb⟩; refine ⟨_, rfl, ?_⟩; have n0_ := Aside0.mk (blk_below (g := gb104) (o := .cells #[.string ((rd_T50 l1 x20_2).f0), .int .i64 ((rd_T50 l1 x20_2).f1), .int .i64 ((rd_T50 l1 x20_2).f2), .int .i64 ((rd_T50 l1 x20_2).f3), .string ((rd_T50 l1 x20_2).f4)] 50 (0, 0)) (by (with_reducible repeat (first | refine blk_drewN ?_ _ | refine blk_drew ?_ | refine blk_alloc ?_ _)); refine blk_put (cs := #[.string ((rd_T50 l1 x20_2).f0), .int .i64 ((rd_T50 l1 x20_2).f1), .int .i64 ((rd_T50 l1 x20_2).f2), .int .i64 ((rd_T50 l1 x20_2).f3), .string (⟨#[]⟩ : ByteArray)]) ?_ 4 _ rfl; (with_reducible repeat (first | refine blk_drewN ?_ _ | refine blk_drew ?_ | refine blk_alloc ?_ _)); refine blk_put (cs := #[.string ((rd_T50 l1 x20_2).f0), .int .i64 ((rd_T50 l1 x20_2).f1), .int .i64 ((rd_T50 l1 x20_2).f2), .int .i64 0, .string (⟨#[]⟩ : ByteArray)]) ?_ 3 _ rfl; (with_reducible repeat (first | refine blk_drewN ?_ _ | refine blk_drew ?_ | refine blk_alloc ?_ _)); refine blk_put (cs := #[.string ((rd_T50 l1 x20_2).f0), .int .i64 ((rd_T50 l1 x20_2).f1), .int .i64 0, .int .i64 0, .string (⟨#[]⟩ : ByteArray)]) ?_ 2 _ rfl; (with_reducible repeat (first | refine blk_drewN ?_ _ | refine blk_drew ?_ | refine blk_alloc ?_ _)); refine blk_put (cs := #[.string ((rd_T50 l1 x20_2).f0), .int .i64 0, .int .i64 0, .int .i64 0, .string (⟨#[]⟩ : ByteArray)]) ?_ 1 _ rfl; (with_reducible repeat (first | refine blk_drewN ?_ _ | refine blk_drew ?_ | refine blk_alloc ?_ _)); refine blk_put (cs := #[.string (⟨#[]⟩ : ByteArray), .int .i64 0, .int .i64 0, .int .i64 0, .string (⟨#[]⟩ : ByteArray)]) ?_ 0 _ rfl; (with_reducible repeat (first | refine blk_drewN ?_ _ | refine blk_drew ?_ | refine blk_alloc ?_ _)); exact BK104.out) hb); have n1_ := Aside0.mk (below_step (by repeat (first | (with_reducible first | exact HB.out | apply below_alloc | apply pw_below_drewN | apply below_drew1 | refine below_set ?_ GE104.out) | exact HB.out)) hb); clear BK104; clear HB; have BK104 := n0_; have HB := n1_; clear n0_ n1_; (try clear hb); (try clear hb2); (try clear hk); (try clear hi); have hcz108_0 : w107.cell? ⟨gb104, 0, none⟩ = some (.string ((rd_T50 l1 x20_2).f0)) := (blk_cell BK104.out 0).trans rfl; have hcz108_1 : w107.cell? ⟨gb104, 1, none⟩ = some (.int .i64 ((rd_T50 l1 x20_2).f1)) := (blk_cell BK104.out 1).trans rfl; have hcz108_2 : w107.cell? ⟨gb104, 2, none⟩ = some (.int .i64 ((rd_T50 l1 x20_2).f2)) := (blk_cell BK104.out 2).trans rfl; have hcz108_3 : w107.cell? ⟨gb104, 3, none⟩ = some (.int .i64 ((rd_T50 l1 x20_2).f3)) := (blk_cell BK104.out 3).trans rfl; have hcz108_4 : w107.cell? ⟨gb104, 4, none⟩ = some (.string ((rd_T50 l1 x20_2).f4)) := (blk_cell BK104.out 4).trans rfl; have hfz108_0 := blk_frozen BK104.out 0; have hfz108_1 := blk_frozen BK104.out 1; have hfz108_2 := blk_frozen BK104.out 2; have hfz108_3 := blk_frozen BK104.out 3; have hfz108_4 := blk_frozen BK104.out 4) | ((with_reducible refine gate_callee (f := 29) rfl ?_); refine goesL_ (some 33) rfl rfl Tryd.func29 (by kernel_rfl) rfl #[.int .i64 ((rd_T50 l1 x20_2).f1), .string ((rd_T50 l1 x20_2).f4)] rfl (by (try simp only [List.map_toArray, List.map_cons, List.map_nil]); first | done | rfl | (simp only [List.length_drop, List.length_take]; rfl)) ?_; (with_reducible refine (impl_CheckData.calls k2 ((rd_T50 l1 x20_2).f1) ((rd_T50 l1 x20_2).f4) t106 _ A16.out (HG.out.below (by repeat (first | (with_reducible first | exact HB.out | apply below_alloc | apply pw_below_drewN | apply below_drew1 | refine below_set ?_ GE104.out) | exact HB.out)))).mono ?_); rintro e w109 ⟨rfl, hb⟩; refine ⟨_, rfl, ?_⟩; have n0_ := Aside0.mk (blk_below (g := gb104) (o := .cells #[.string ((rd_T50 l1 x20_2).f0), .int .i64 ((rd_T50 l1 x20_2).f1), .int .i64 ((rd_T50 l1 x20_2).f2), .int .i64 ((rd_T50 l1 x20_2).f3), .string ((rd_T50 l1 x20_2).f4)] 50 (0, 0)) (by (with_reducible repeat (first | refine blk_drewN ?_ _ | refine blk_drew ?_ | refine blk_alloc ?_ _)); exact BK104.out) hb); have n1_ := Aside0.mk (below_step (by repeat (first | (with_reducible first | exact HB.out | apply below_alloc | apply pw_below_drewN | apply below_drew1 | refine below_set ?_ GE104.out) | exact HB.out)) hb); clear BK104; clear HB; have BK104 := n0_; have HB := n1_; clear n0_ n1_; (try clear hb); (try clear hb2); (try clear hk); (try clear hi); have hcz110_0 : w109.cell? ⟨gb104, 0, none⟩ = some (.string ((rd_T50 l1 x20_2).f0)) := (blk_cell BK104.out 0).trans rfl; have hcz110_1 : w109.cell? ⟨gb104, 1, none⟩ = some (.int .i64 ((rd_T50 l1 x20_2).f1)) := (blk_cell BK104.out 1).trans rfl; have hcz110_2 : w109.cell? ⟨gb104, 2, none⟩ = some (.int .i64 ((rd_T50 l1 x20_2).f2)) := (blk_cell BK104.out 2).trans rfl; have hcz110_3 : w109.cell? ⟨gb104, 3, none⟩ = some (.int .i64 ((rd_T50 l1 x20_2).f3)) := (blk_cell BK104.out 3).trans rfl; have hcz110_4 : w109.cell? ⟨gb104, 4, none⟩ = some (.string ((rd_T50 l1 x20_2).f4)) := (blk_cell BK104.out 4).trans rfl; have hfz110_0 := blk_frozen BK104.out 0; have hfz110_1 := blk_frozen BK104.out 1; have hfz110_2 := blk_frozen BK104.out 2; have hfz110_3 := blk_frozen BK104.out 3; have hfz110_4 := blk_frozen BK104.out 4))
              go_ret2
              exact ⟨by first | rfl | (simp [errW_none, errW_some] <;> rfl) | (simp [*, errW_none, errW_some] <;> rfl), by repeat (first | (with_reducible first | exact HB.out | apply below_alloc | apply pw_below_drewN | apply below_drew1 | refine below_set ?_ GE104.out) | exact HB.out)⟩
            · rw [if_neg c82] at H
             have c82b0 : (((rd_T50 l1 x20_2).f2) == 254) = false := beq_eq_false_iff_ne.mpr c82
             have c82b1 : (((rd_T50 l1 x20_2).f2) != 254) = true := bne_iff_ne.mpr c82
             simp only [Option.some.injEq, Prod.mk.injEq] at H
             obtain ⟨rfl, rfl⟩ := H
             have p103 : 0 ≤ (x20_2 : Int) := of_decide_eq_true (by first | (with_reducible assumption) | assumption)
             have q103 : x20_2 < (l1.length : Int) := of_decide_eq_true (by first | (with_reducible assumption) | assumption)
             obtain ⟨ad103, e103, hx103_0, hx103_1, hx103_2, hx103_3, hx103_4⟩ := at_T50 HR1.out x20_2 p103 q103
             cases e103
             replace hx103_0 := (HB.out.cell (World.block_lt_of_cell? w _ hx103_0)).trans hx103_0
             replace hx103_1 := (HB.out.cell (World.block_lt_of_cell? w _ hx103_1)).trans hx103_1
             replace hx103_2 := (HB.out.cell (World.block_lt_of_cell? w _ hx103_2)).trans hx103_2
             replace hx103_3 := (HB.out.cell (World.block_lt_of_cell? w _ hx103_3)).trans hx103_3
             replace hx103_4 := (HB.out.cell (World.block_lt_of_cell? w _ hx103_4)).trans hx103_4
             replace p103 := eq_true p103
             replace q103 := eq_true q103
             go_wp2_with (first | ((with_reducible refine gate_dst (N := 7) rfl ?_); refine box_event ?hg (N := 7) ?hd (cs := #[.string (⟨#[]⟩ : ByteArray), .int .i64 0, .int .i64 0, .int .i64 0, .string (⟨#[]⟩ : ByteArray)]) (t := 50) ?hr ?_; (case hd => rfl); (case hg => rfl); (case hr => first | (go_simp; done) | (go_simp; rfl)); intro gb104 hg w111 hbox hb; have n0_ := Aside0.mk (below_step (by repeat (first | (with_reducible first | exact HB.out | apply below_alloc | apply pw_below_drewN | apply below_drew1) | exact HB.out)) hb); have n1_ := Aside0.mk (hbox); have n2_ := Aside0.mk ((by rw [hg]; exact (below_size (by repeat (first | (with_reducible first | exact HB.out | apply below_alloc | apply pw_below_drewN | apply below_drew1) | exact HB.out))) : w.heap.size ≤ gb104)); have n3_ := Aside0.mk ((by rw [hg]; exact (below_size (by repeat (first | (with_reducible first | exact HB.out | apply below_alloc | apply pw_below_drewN | apply below_drew1) | exact HB.out))) : w.heap.size ≤ gb104)); clear HB; have HB := n0_; have BK104 := n1_; have GW104 := n2_; have GE104 := n3_; clear n0_ n1_ n2_ n3_; clear hb hbox hg; have hcz112_0 : w111.cell? ⟨gb104, 0, none⟩ = some (.string (⟨#[]⟩ : ByteArray)) := (blk_cell BK104.out 0).trans rfl; have hcz112_1 : w111.cell? ⟨gb104, 1, none⟩ = some (.int .i64 0) := (blk_cell BK104.out 1).trans rfl; have hcz112_2 : w111.cell? ⟨gb104, 2, none⟩ = some (.int .i64 0) := (blk_cell BK104.out 2).trans rfl; have hcz112_3 : w111.cell? ⟨gb104, 3, none⟩ = some (.int .i64 0) := (blk_cell BK104.out 3).trans rfl; have hcz112_4 : w111.cell? ⟨gb104, 4, none⟩ = some (.string (⟨#[]⟩ : ByteArray)) := (blk_cell BK104.out 4).trans rfl; have hfz112_0 := blk_frozen BK104.out 0; have hfz112_1 := blk_frozen BK104.out 1; have hfz112_2 := blk_frozen BK104.out 2; have hfz112_3 := blk_frozen BK104.out 3; have hfz112_4 := blk_frozen BK104.out 4) | ((with_reducible refine gate_callee (f := 28) rfl ?_); refine goesL_ (some 27) rfl rfl Tryd.func28 (by kernel_rfl) rfl #[.string ((rd_T50 l1 x20_2).f0), .string a0] rfl (by (try simp only [List.map_toArray, List.map_cons, List.map_nil]); first | done | rfl | (simp only [List.length_drop, List.length_take]; rfl)) ?_; (with_reducible refine (impl_IsUnder.calls k2 ((rd_T50 l1 x20_2).f0) a0 true _ A14.out).mono ?_); rintro e w113 ⟨rfl, hb⟩; refine ⟨_, rfl, ?_⟩; have n0_ := Aside0.mk (blk_below (g := gb104) (o := .cells #[.string ((rd_T50 l1 x20_2).f0), .int .i64 ((rd_T50 l1 x20_2).f1), .int .i64 ((rd_T50 l1 x20_2).f2), .int .i64 ((rd_T50 l1 x20_2).f3), .string ((rd_T50 l1 x20_2).f4)] 50 (0, 0)) (by (with_reducible repeat (first | refine blk_drewN ?_ _ | refine blk_drew ?_ | refine blk_alloc ?_ _)); refine blk_put (cs := #[.string ((rd_T50 l1 x20_2).f0), .int .i64 ((rd_T50 l1 x20_2).f1), .int .i64 ((rd_T50 l1 x20_2).f2), .int .i64 ((rd_T50 l1 x20_2).f3), .string (⟨#[]⟩ : ByteArray)]) ?_ 4 _ rfl; (with_reducible repeat (first | refine blk_drewN ?_ _ | refine blk_drew ?_ | refine blk_alloc ?_ _)); refine blk_put (cs := #[.string ((rd_T50 l1 x20_2).f0), .int .i64 ((rd_T50 l1 x20_2).f1), .int .i64 ((rd_T50 l1 x20_2).f2), .int .i64 0, .string (⟨#[]⟩ : ByteArray)]) ?_ 3 _ rfl; (with_reducible repeat (first | refine blk_drewN ?_ _ | refine blk_drew ?_ | refine blk_alloc ?_ _)); refine blk_put (cs := #[.string ((rd_T50 l1 x20_2).f0), .int .i64 ((rd_T50 l1 x20_2).f1), .int .i64 0, .int .i64 0, .string (⟨#[]⟩ : ByteArray)]) ?_ 2 _ rfl; (with_reducible repeat (first | refine blk_drewN ?_ _ | refine blk_drew ?_ | refine blk_alloc ?_ _)); refine blk_put (cs := #[.string ((rd_T50 l1 x20_2).f0), .int .i64 0, .int .i64 0, .int .i64 0, .string (⟨#[]⟩ : ByteArray)]) ?_ 1 _ rfl; (with_reducible repeat (first | refine blk_drewN ?_ _ | refine blk_drew ?_ | refine blk_alloc ?_ _)); refine blk_put (cs := #[.string (⟨#[]⟩ : ByteArray), .int .i64 0, .int .i64 0, .int .i64 0, .string (⟨#[]⟩ : ByteArray)]) ?_ 0 _ rfl; (with_reducible repeat (first | refine blk_drewN ?_ _ | refine blk_drew ?_ | refine blk_alloc ?_ _)); exact BK104.out) hb); have n1_ := Aside0.mk (below_step (by repeat (first | (with_reducible first | exact HB.out | apply below_alloc | apply pw_below_drewN | apply below_drew1 | refine below_set ?_ GE104.out) | exact HB.out)) hb); clear BK104; clear HB; have BK104 := n0_; have HB := n1_; clear n0_ n1_; (try clear hb); (try clear hb2); (try clear hk); (try clear hi); have hcz114_0 : w113.cell? ⟨gb104, 0, none⟩ = some (.string ((rd_T50 l1 x20_2).f0)) := (blk_cell BK104.out 0).trans rfl; have hcz114_1 : w113.cell? ⟨gb104, 1, none⟩ = some (.int .i64 ((rd_T50 l1 x20_2).f1)) := (blk_cell BK104.out 1).trans rfl; have hcz114_2 : w113.cell? ⟨gb104, 2, none⟩ = some (.int .i64 ((rd_T50 l1 x20_2).f2)) := (blk_cell BK104.out 2).trans rfl; have hcz114_3 : w113.cell? ⟨gb104, 3, none⟩ = some (.int .i64 ((rd_T50 l1 x20_2).f3)) := (blk_cell BK104.out 3).trans rfl; have hcz114_4 : w113.cell? ⟨gb104, 4, none⟩ = some (.string ((rd_T50 l1 x20_2).f4)) := (blk_cell BK104.out 4).trans rfl; have hfz114_0 := blk_frozen BK104.out 0; have hfz114_1 := blk_frozen BK104.out 1; have hfz114_2 := blk_frozen BK104.out 2; have hfz114_3 := blk_frozen BK104.out 3; have hfz114_4 := blk_frozen BK104.out 4) | ((with_reducible refine gate_callee (f := 29) rfl ?_); refine goesL_ (some 33) rfl rfl Tryd.func29 (by kernel_rfl) rfl #[.int .i64 ((rd_T50 l1 x20_2).f1), .string ((rd_T50 l1 x20_2).f4)] rfl (by (try simp only [List.map_toArray, List.map_cons, List.map_nil]); first | done | rfl | (simp only [List.length_drop, List.length_take]; rfl)) ?_; (with_reducible refine (impl_CheckData.calls k2 ((rd_T50 l1 x20_2).f1) ((rd_T50 l1 x20_2).f4) t106 _ A16.out (HG.out.below (by repeat (first | (with_reducible first | exact HB.out | apply below_alloc | apply pw_below_drewN | apply below_drew1 | refine below_set ?_ GE104.out) | exact HB.out)))).mono ?_); rintro e w115 ⟨rfl, hb⟩; refine ⟨_, rfl, ?_⟩; have n0_ := Aside0.mk (blk_below (g := gb104) (o := .cells #[.string ((rd_T50 l1 x20_2).f0), .int .i64 ((rd_T50 l1 x20_2).f1), .int .i64 ((rd_T50 l1 x20_2).f2), .int .i64 ((rd_T50 l1 x20_2).f3), .string ((rd_T50 l1 x20_2).f4)] 50 (0, 0)) (by (with_reducible repeat (first | refine blk_drewN ?_ _ | refine blk_drew ?_ | refine blk_alloc ?_ _)); exact BK104.out) hb); have n1_ := Aside0.mk (below_step (by repeat (first | (with_reducible first | exact HB.out | apply below_alloc | apply pw_below_drewN | apply below_drew1 | refine below_set ?_ GE104.out) | exact HB.out)) hb); clear BK104; clear HB; have BK104 := n0_; have HB := n1_; clear n0_ n1_; (try clear hb); (try clear hb2); (try clear hk); (try clear hi); have hcz116_0 : w115.cell? ⟨gb104, 0, none⟩ = some (.string ((rd_T50 l1 x20_2).f0)) := (blk_cell BK104.out 0).trans rfl; have hcz116_1 : w115.cell? ⟨gb104, 1, none⟩ = some (.int .i64 ((rd_T50 l1 x20_2).f1)) := (blk_cell BK104.out 1).trans rfl; have hcz116_2 : w115.cell? ⟨gb104, 2, none⟩ = some (.int .i64 ((rd_T50 l1 x20_2).f2)) := (blk_cell BK104.out 2).trans rfl; have hcz116_3 : w115.cell? ⟨gb104, 3, none⟩ = some (.int .i64 ((rd_T50 l1 x20_2).f3)) := (blk_cell BK104.out 3).trans rfl; have hcz116_4 : w115.cell? ⟨gb104, 4, none⟩ = some (.string ((rd_T50 l1 x20_2).f4)) := (blk_cell BK104.out 4).trans rfl; have hfz116_0 := blk_frozen BK104.out 0; have hfz116_1 := blk_frozen BK104.out 1; have hfz116_2 := blk_frozen BK104.out 2; have hfz116_3 := blk_frozen BK104.out 3; have hfz116_4 := blk_frozen BK104.out 4))
             go_ret2
             exact ⟨by first | rfl | (simp [errW_none, errW_some] <;> rfl) | (simp [*, errW_none, errW_some] <;> rfl), by repeat (first | (with_reducible first | exact HB.out | apply below_alloc | apply pw_below_drewN | apply below_drew1 | refine below_set ?_ GE104.out) | exact HB.out)⟩
         · replace c15 := Bool.eq_false_iff.mpr c15
          subst c15
          have H1 : (some (10, 0)) = some (r1, r2) := by rw [if_neg (show ¬ (false = true) by decide)] at H; exact H
          clear H
          have H := H1
          clear H1
          simp only [Option.some.injEq, Prod.mk.injEq] at H
          obtain ⟨rfl, rfl⟩ := H
          have p103 : 0 ≤ (x20_2 : Int) := of_decide_eq_true (by first | (with_reducible assumption) | assumption)
          have q103 : x20_2 < (l1.length : Int) := of_decide_eq_true (by first | (with_reducible assumption) | assumption)
          obtain ⟨ad103, e103, hx103_0, hx103_1, hx103_2, hx103_3, hx103_4⟩ := at_T50 HR1.out x20_2 p103 q103
          cases e103
          replace hx103_0 := (HB.out.cell (World.block_lt_of_cell? w _ hx103_0)).trans hx103_0
          replace hx103_1 := (HB.out.cell (World.block_lt_of_cell? w _ hx103_1)).trans hx103_1
          replace hx103_2 := (HB.out.cell (World.block_lt_of_cell? w _ hx103_2)).trans hx103_2
          replace hx103_3 := (HB.out.cell (World.block_lt_of_cell? w _ hx103_3)).trans hx103_3
          replace hx103_4 := (HB.out.cell (World.block_lt_of_cell? w _ hx103_4)).trans hx103_4
          replace p103 := eq_true p103
          replace q103 := eq_true q103
          go_wp2_with (first | ((with_reducible refine gate_dst (N := 7) rfl ?_); refine box_event ?hg (N := 7) ?hd (cs := #[.string (⟨#[]⟩ : ByteArray), .int .i64 0, .int .i64 0, .int .i64 0, .string (⟨#[]⟩ : ByteArray)]) (t := 50) ?hr ?_; (case hd => rfl); (case hg => rfl); (case hr => first | (go_simp; done) | (go_simp; rfl)); intro gb104 hg w117 hbox hb; have n0_ := Aside0.mk (below_step (by repeat (first | (with_reducible first | exact HB.out | apply below_alloc | apply pw_below_drewN | apply below_drew1) | exact HB.out)) hb); have n1_ := Aside0.mk (hbox); have n2_ := Aside0.mk ((by rw [hg]; exact (below_size (by repeat (first | (with_reducible first | exact HB.out | apply below_alloc | apply pw_below_drewN | apply below_drew1) | exact HB.out))) : w.heap.size ≤ gb104)); have n3_ := Aside0.mk ((by rw [hg]; exact (below_size (by repeat (first | (with_reducible first | exact HB.out | apply below_alloc | apply pw_below_drewN | apply below_drew1) | exact HB.out))) : w.heap.size ≤ gb104)); clear HB; have HB := n0_; have BK104 := n1_; have GW104 := n2_; have GE104 := n3_; clear n0_ n1_ n2_ n3_; clear hb hbox hg; have hcz118_0 : w117.cell? ⟨gb104, 0, none⟩ = some (.string (⟨#[]⟩ : ByteArray)) := (blk_cell BK104.out 0).trans rfl; have hcz118_1 : w117.cell? ⟨gb104, 1, none⟩ = some (.int .i64 0) := (blk_cell BK104.out 1).trans rfl; have hcz118_2 : w117.cell? ⟨gb104, 2, none⟩ = some (.int .i64 0) := (blk_cell BK104.out 2).trans rfl; have hcz118_3 : w117.cell? ⟨gb104, 3, none⟩ = some (.int .i64 0) := (blk_cell BK104.out 3).trans rfl; have hcz118_4 : w117.cell? ⟨gb104, 4, none⟩ = some (.string (⟨#[]⟩ : ByteArray)) := (blk_cell BK104.out 4).trans rfl; have hfz118_0 := blk_frozen BK104.out 0; have hfz118_1 := blk_frozen BK104.out 1; have hfz118_2 := blk_frozen BK104.out 2; have hfz118_3 := blk_frozen BK104.out 3; have hfz118_4 := blk_frozen BK104.out 4) | ((with_reducible refine gate_callee (f := 28) rfl ?_); refine goesL_ (some 27) rfl rfl Tryd.func28 (by kernel_rfl) rfl #[.string ((rd_T50 l1 x20_2).f0), .string a0] rfl (by (try simp only [List.map_toArray, List.map_cons, List.map_nil]); first | done | rfl | (simp only [List.length_drop, List.length_take]; rfl)) ?_; (with_reducible refine (impl_IsUnder.calls k2 ((rd_T50 l1 x20_2).f0) a0 false _ A14.out).mono ?_); rintro e w119 ⟨rfl, hb⟩; refine ⟨_, rfl, ?_⟩; have n0_ := Aside0.mk (blk_below (g := gb104) (o := .cells #[.string ((rd_T50 l1 x20_2).f0), .int .i64 ((rd_T50 l1 x20_2).f1), .int .i64 ((rd_T50 l1 x20_2).f2), .int .i64 ((rd_T50 l1 x20_2).f3), .string ((rd_T50 l1 x20_2).f4)] 50 (0, 0)) (by (with_reducible repeat (first | refine blk_drewN ?_ _ | refine blk_drew ?_ | refine blk_alloc ?_ _)); refine blk_put (cs := #[.string ((rd_T50 l1 x20_2).f0), .int .i64 ((rd_T50 l1 x20_2).f1), .int .i64 ((rd_T50 l1 x20_2).f2), .int .i64 ((rd_T50 l1 x20_2).f3), .string (⟨#[]⟩ : ByteArray)]) ?_ 4 _ rfl; (with_reducible repeat (first | refine blk_drewN ?_ _ | refine blk_drew ?_ | refine blk_alloc ?_ _)); refine blk_put (cs := #[.string ((rd_T50 l1 x20_2).f0), .int .i64 ((rd_T50 l1 x20_2).f1), .int .i64 ((rd_T50 l1 x20_2).f2), .int .i64 0, .string (⟨#[]⟩ : ByteArray)]) ?_ 3 _ rfl; (with_reducible repeat (first | refine blk_drewN ?_ _ | refine blk_drew ?_ | refine blk_alloc ?_ _)); refine blk_put (cs := #[.string ((rd_T50 l1 x20_2).f0), .int .i64 ((rd_T50 l1 x20_2).f1), .int .i64 0, .int .i64 0, .string (⟨#[]⟩ : ByteArray)]) ?_ 2 _ rfl; (with_reducible repeat (first | refine blk_drewN ?_ _ | refine blk_drew ?_ | refine blk_alloc ?_ _)); refine blk_put (cs := #[.string ((rd_T50 l1 x20_2).f0), .int .i64 0, .int .i64 0, .int .i64 0, .string (⟨#[]⟩ : ByteArray)]) ?_ 1 _ rfl; (with_reducible repeat (first | refine blk_drewN ?_ _ | refine blk_drew ?_ | refine blk_alloc ?_ _)); refine blk_put (cs := #[.string (⟨#[]⟩ : ByteArray), .int .i64 0, .int .i64 0, .int .i64 0, .string (⟨#[]⟩ : ByteArray)]) ?_ 0 _ rfl; (with_reducible repeat (first | refine blk_drewN ?_ _ | refine blk_drew ?_ | refine blk_alloc ?_ _)); exact BK104.out) hb); have n1_ := Aside0.mk (below_step (by repeat (first | (with_reducible first | exact HB.out | apply below_alloc | apply pw_below_drewN | apply below_drew1 | refine below_set ?_ GE104.out) | exact HB.out)) hb); clear BK104; clear HB; have BK104 := n0_; have HB := n1_; clear n0_ n1_; (try clear hb); (try clear hb2); (try clear hk); (try clear hi)))
          go_ret2
          exact ⟨by first | rfl | (simp [errW_none, errW_some] <;> rfl) | (simp [*, errW_none, errW_some] <;> rfl), by repeat (first | (with_reducible first | exact HB.out | apply below_alloc | apply pw_below_drewN | apply below_drew1 | refine below_set ?_ GE104.out) | exact HB.out)⟩
        · rw [if_neg c13] at H
         exact absurd H (by simp)
       · rw [if_neg c12] at H
        exact absurd H (by simp)
      · rw [if_neg c11] at H
       have c11b0 : decide (x20_2 < (l1.length : Int)) = false := decide_eq_false c11
       clear c11
       simp only [Option.some.injEq, Prod.mk.injEq] at H
       obtain ⟨rfl, rfl⟩ := H
       go_wp2
       go_ret2
       exact ⟨by first | rfl | (simp [errW_none, errW_some] <;> rfl) | (simp [*, errW_none, errW_some] <;> rfl), by repeat (first | (with_reducible first | exact HB.out | apply below_alloc | apply pw_below_drewN | apply below_drew1) | exact HB.out)⟩

end Go.Proofs.YtpnbhblmfglkcaaDoor.F
