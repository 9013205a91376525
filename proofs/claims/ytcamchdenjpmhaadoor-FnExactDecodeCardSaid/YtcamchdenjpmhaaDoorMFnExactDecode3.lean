/- Part 3 of 6 of the proof of FnExactDecode: what each Go function on its way computes, that the Go code does just this, and what the law says of it. No condition beyond the statement's own. -/
import Derived.Test.YtcamchdenjpmhaaDoorMFnExactDecode2
namespace Go.Proofs.YtcamchdenjpmhaaDoor.F
open Go Go.Shelf Go.RowKit Go.Proofs.YtcamchdenjpmhaaDoorW.PrintWords Go.Proofs.YtcamchdenjpmhaaDoorW.PrintLast Go.Proofs.YtcamchdenjpmhaaDoorW.PrintMore
attribute [local go_sem] max2_int min2_int max_two min_two max_three min_three max_four min_four   -- for this text's walks alone
set_option linter.unusedVariables false
set_option linter.unusedSimpArgs false

/-! ### spec_l04Record: function 28 -/
def spec_l04Record.f (k : Nat) (l0 : List Int) (a1 : Int) : Option (ByteArray × Int × Int × Int × ByteArray × Int × Int) := (spec_DecodeName.f k l0 a1).bind fun bt102 => (if bt102.2.2 = 0 then (if (wrap64 (bt102.2.1 + 10)) > (l0.length : Int) then (some ((⟨#[]⟩ : ByteArray), 0, 0, 0, (⟨#[]⟩ : ByteArray), 0, 8)) else (if 0 ≤ bt102.2.1 then (if bt102.2.1 ≤ (wrap64 (bt102.2.1 + 10)) then (if (wrap64 (bt102.2.1 + 10)) ≤ (l0.length : Int) then (if 8 ≤ ((strOfNums ((l0.take ((wrap64 (bt102.2.1 + 10)) : Int).toNat).drop (bt102.2.1 : Int).toNat)).size : Int) then ((spec_l02Num.f k ((strOfNums ((l0.take ((wrap64 (bt102.2.1 + 10)) : Int).toNat).drop (bt102.2.1 : Int).toNat)).extract 8 (strOfNums ((l0.take ((wrap64 (bt102.2.1 + 10)) : Int).toNat).drop (bt102.2.1 : Int).toNat)).size)).bind fun t106 => (if (wrap64 ((wrap64 (bt102.2.1 + 10)) + t106)) > (l0.length : Int) then (some ((⟨#[]⟩ : ByteArray), 0, 0, 0, (⟨#[]⟩ : ByteArray), 0, 8)) else (if 0 ≤ 2 then (if 2 ≤ ((strOfNums ((l0.take ((wrap64 (bt102.2.1 + 10)) : Int).toNat).drop (bt102.2.1 : Int).toNat)).size : Int) then ((spec_l02Num.f k ((strOfNums ((l0.take ((wrap64 (bt102.2.1 + 10)) : Int).toNat).drop (bt102.2.1 : Int).toNat)).extract 0 2)).bind fun t107 => ((spec_l04Data.f k l0 t107 (wrap64 (bt102.2.1 + 10)) (wrap64 ((wrap64 (bt102.2.1 + 10)) + t106))).bind fun bt108 => (if bt108.2 = 0 then ((spec_l02Num.f k ((strOfNums ((l0.take ((wrap64 (bt102.2.1 + 10)) : Int).toNat).drop (bt102.2.1 : Int).toNat)).extract 0 2)).bind fun t110 => (if 2 ≤ 4 then (if 4 ≤ ((strOfNums ((l0.take ((wrap64 (bt102.2.1 + 10)) : Int).toNat).drop (bt102.2.1 : Int).toNat)).size : Int) then ((spec_l02Num.f k ((strOfNums ((l0.take ((wrap64 (bt102.2.1 + 10)) : Int).toNat).drop (bt102.2.1 : Int).toNat)).extract 2 4)).bind fun t111 => (if 4 ≤ 8 then ((spec_l02Num.f k ((strOfNums ((l0.take ((wrap64 (bt102.2.1 + 10)) : Int).toNat).drop (bt102.2.1 : Int).toNat)).extract 4 8)).bind fun t112 => (some (bt102.1, t110, t111, t112, bt108.1, wrap64 ((wrap64 (bt102.2.1 + 10)) + t106), 0))) else (none))) else (none)) else (none))) else (some ((⟨#[]⟩ : ByteArray), 0, 0, 0, (⟨#[]⟩ : ByteArray), 0, bt108.2))))) else (none)) else (none)))) else (none)) else (none)) else (none)) else (none))) else (some ((⟨#[]⟩ : ByteArray), 0, 0, 0, (⟨#[]⟩ : ByteArray), 0, bt102.2.2)))
theorem spec_l04Record.mono : ∀ a0 a1 k, LeO (spec_l04Record.f k a0 a1) (spec_l04Record.f (k + 1) a0 a1) := by
  intro a0 a1 k
  unfold spec_l04Record.f
  repeat' first
      | (with_reducible exact spec_DecodeName.mono _ _ _)
      | (with_reducible exact spec_l02Num.mono _ _)
      | (with_reducible exact spec_l04Data.mono _ _ _ _ _)
      | (with_reducible exact LeO.refl _)
      | (with_reducible exact LeO.none _)
      | (with_reducible refine LeO.ite ?_ ?_)
      | (with_reducible refine LeO.bind ?_ (fun _ => ?_))
      | exact spec_DecodeName.mono _ _ _
      | exact spec_l02Num.mono _ _
      | exact spec_l04Data.mono _ _ _ _ _
      | exact LeO.none _
      | refine LeO.ite ?_ ?_
      | refine LeO.bind ?_ (fun _ => ?_)
def spec_l04Record.T13 : Bool × List (List Nat × List Nat) := (true, [([], []), ([], []), ([1], [1]), ([2], [2]), ([], []), ([4], [4]), ([5, 3], [5]), ([], []), ([7], [7]), ([8, 6], [8]), ([], []), ([0, 3, 6, 9, 10], [0, 3, 6, 9, 10]), ([], []), ([11, 9, 0, 1, 2, 3, 4, 5, 6, 7, 8, 9, 10, 11], [11]), ([12, 13, 0, 1, 2, 3, 4, 5, 6, 7, 8, 9, 10, 11, 12, 13], [12]), ([14, 0, 1, 2, 3, 4, 5, 6, 7, 8, 9, 10, 11, 12, 13, 14], [])])
def spec_l04Record.B13 : List Nat := [0, 0, 2, 6, 0, 16, 62, 0, 128, 510, 0, 2047, 0, 4095, 16383, 32767]
theorem spec_l04Record.tab13 : rtab .any (opsOf Tryd.f28 13) = spec_l04Record.T13 := by kernel_rfl
theorem spec_l04Record.bits13 : waitsOk spec_l04Record.T13.2 spec_l04Record.B13 = true := by kernel_rfl
set_option maxHeartbeats 8000000 in
set_option maxRecDepth 100000 in
theorem spec_l04Record.calls (k : Nat) (A0 : Option Addr) (c0 : Nat) (l0 : List Int) (a1 : Int) (r1 : ByteArray) (r2 : Int) (r3 : Int) (r4 : Int) (r5 : ByteArray) (r6 : Int) (r7 : Int) (w : World) (hr0 : Kd.C (Kd.int .u8) w A0 l0.length l0) (hc0 : l0.length ≤ c0) (h : spec_l04Record.f k l0 a1 = some (r1, r2, r3, r4, r5, r6, r7)) :
    Calls Tryd.prog 28 #[.slice A0 l0.length c0, .int .i64 a1] w fun e w' => e = .returned (.tuple #[.agg #[.string r1, .int .i64 r2, .int .i64 r3, .int .i64 r4, .string r5], .int .i64 r6, .int .i64 r7]) ∧ Below w.heap.size w w' := by
  have hu53 := Tryd.underlying53
  have HR0 := Aside0.mk hr0
  have HC0 := Aside0.mk hc0
  clear hr0 hc0
  have HB := Aside0.mk (Below.refl w.heap.size w)
  have H : ((spec_DecodeName.f k l0 a1).bind fun bt102 => (if bt102.2.2 = 0 then (if (wrap64 (bt102.2.1 + 10)) > (l0.length : Int) then (some ((⟨#[]⟩ : ByteArray), 0, 0, 0, (⟨#[]⟩ : ByteArray), 0, 8)) else (if 0 ≤ bt102.2.1 then (if bt102.2.1 ≤ (wrap64 (bt102.2.1 + 10)) then (if (wrap64 (bt102.2.1 + 10)) ≤ (l0.length : Int) then (if 8 ≤ ((strOfNums ((l0.take ((wrap64 (bt102.2.1 + 10)) : Int).toNat).drop (bt102.2.1 : Int).toNat)).size : Int) then ((spec_l02Num.f k ((strOfNums ((l0.take ((wrap64 (bt102.2.1 + 10)) : Int).toNat).drop (bt102.2.1 : Int).toNat)).extract 8 (strOfNums ((l0.take ((wrap64 (bt102.2.1 + 10)) : Int).toNat).drop (bt102.2.1 : Int).toNat)).size)).bind fun t106 => (if (wrap64 ((wrap64 (bt102.2.1 + 10)) + t106)) > (l0.length : Int) then (some ((⟨#[]⟩ : ByteArray), 0, 0, 0, (⟨#[]⟩ : ByteArray), 0, 8)) else (if 0 ≤ 2 then (if 2 ≤ ((strOfNums ((l0.take ((wrap64 (bt102.2.1 + 10)) : Int).toNat).drop (bt102.2.1 : Int).toNat)).size : Int) then ((spec_l02Num.f k ((strOfNums ((l0.take ((wrap64 (bt102.2.1 + 10)) : Int).toNat).drop (bt102.2.1 : Int).toNat)).extract 0 2)).bind fun t107 => ((spec_l04Data.f k l0 t107 (wrap64 (bt102.2.1 + 10)) (wrap64 ((wrap64 (bt102.2.1 + 10)) + t106))).bind fun bt108 => (if bt108.2 = 0 then ((spec_l02Num.f k ((strOfNums ((l0.take ((wrap64 (bt102.2.1 + 10)) : Int).toNat).drop (bt102.2.1 : Int).toNat)).extract 0 2)).bind fun t110 => (if 2 ≤ 4 then (if 4 ≤ ((strOfNums ((l0.take ((wrap64 (bt102.2.1 + 10)) : Int).toNat).drop (bt102.2.1 : Int).toNat)).size : Int) then ((spec_l02Num.f k ((strOfNums ((l0.take ((wrap64 (bt102.2.1 + 10)) : Int).toNat).drop (bt102.2.1 : Int).toNat)).extract 2 4)).bind fun t111 => (if 4 ≤ 8 then ((spec_l02Num.f k ((strOfNums ((l0.take ((wrap64 (bt102.2.1 + 10)) : Int).toNat).drop (bt102.2.1 : Int).toNat)).extract 4 8)).bind fun t112 => (some (bt102.1, t110, t111, t112, bt108.1, wrap64 ((wrap64 (bt102.2.1 + 10)) + t106), 0))) else (none))) else (none)) else (none))) else (some ((⟨#[]⟩ : ByteArray), 0, 0, 0, (⟨#[]⟩ : ByteArray), 0, bt108.2))))) else (none)) else (none)))) else (none)) else (none)) else (none)) else (none))) else (some ((⟨#[]⟩ : ByteArray), 0, 0, 0, (⟨#[]⟩ : ByteArray), 0, bt102.2.2)))) = some (r1, r2, r3, r4, r5, r6, r7) := h
  clear h
  replace H := Option.bind_eq_some_iff.mp H
  obtain ⟨⟨t102, t103, t104⟩, A30, H⟩ := H
  replace H : (if t104 = 0 then (if (wrap64 (t103 + 10)) > (l0.length : Int) then (some ((⟨#[]⟩ : ByteArray), 0, 0, 0, (⟨#[]⟩ : ByteArray), 0, 8)) else (if 0 ≤ t103 then (if t103 ≤ (wrap64 (t103 + 10)) then (if (wrap64 (t103 + 10)) ≤ (l0.length : Int) then (if 8 ≤ ((strOfNums ((l0.take ((wrap64 (t103 + 10)) : Int).toNat).drop (t103 : Int).toNat)).size : Int) then ((spec_l02Num.f k ((strOfNums ((l0.take ((wrap64 (t103 + 10)) : Int).toNat).drop (t103 : Int).toNat)).extract 8 (strOfNums ((l0.take ((wrap64 (t103 + 10)) : Int).toNat).drop (t103 : Int).toNat)).size)).bind fun t106 => (if (wrap64 ((wrap64 (t103 + 10)) + t106)) > (l0.length : Int) then (some ((⟨#[]⟩ : ByteArray), 0, 0, 0, (⟨#[]⟩ : ByteArray), 0, 8)) else (if 0 ≤ 2 then (if 2 ≤ ((strOfNums ((l0.take ((wrap64 (t103 + 10)) : Int).toNat).drop (t103 : Int).toNat)).size : Int) then ((spec_l02Num.f k ((strOfNums ((l0.take ((wrap64 (t103 + 10)) : Int).toNat).drop (t103 : Int).toNat)).extract 0 2)).bind fun t107 => ((spec_l04Data.f k l0 t107 (wrap64 (t103 + 10)) (wrap64 ((wrap64 (t103 + 10)) + t106))).bind fun bt108 => (if bt108.2 = 0 then ((spec_l02Num.f k ((strOfNums ((l0.take ((wrap64 (t103 + 10)) : Int).toNat).drop (t103 : Int).toNat)).extract 0 2)).bind fun t110 => (if 2 ≤ 4 then (if 4 ≤ ((strOfNums ((l0.take ((wrap64 (t103 + 10)) : Int).toNat).drop (t103 : Int).toNat)).size : Int) then ((spec_l02Num.f k ((strOfNums ((l0.take ((wrap64 (t103 + 10)) : Int).toNat).drop (t103 : Int).toNat)).extract 2 4)).bind fun t111 => (if 4 ≤ 8 then ((spec_l02Num.f k ((strOfNums ((l0.take ((wrap64 (t103 + 10)) : Int).toNat).drop (t103 : Int).toNat)).extract 4 8)).bind fun t112 => (some (t102, t110, t111, t112, bt108.1, wrap64 ((wrap64 (t103 + 10)) + t106), 0))) else (none))) else (none)) else (none))) else (some ((⟨#[]⟩ : ByteArray), 0, 0, 0, (⟨#[]⟩ : ByteArray), 0, bt108.2))))) else (none)) else (none)))) else (none)) else (none)) else (none)) else (none))) else (some ((⟨#[]⟩ : ByteArray), 0, 0, 0, (⟨#[]⟩ : ByteArray), 0, t104))) = some (r1, r2, r3, r4, r5, r6, r7) := H
  have A3 := Aside0.mk A30
  clear A30
  by_cases c4 : t104 = 0
  · rw [if_pos c4] at H
    have c4b0 : (t104 == 0) = true := beq_iff_eq.mpr c4
    have c4b1 : (t104 != 0) = false := bne_eq_false_iff_eq.mpr c4
    clear c4
    by_cases c5 : (wrap64 (t103 + 10)) > (l0.length : Int)
    · rw [if_pos c5] at H
      have c5b0 : decide ((l0.length : Int) < (wrap64 (t103 + 10))) = true := decide_eq_true c5
      clear c5
      simp only [Option.some.injEq, Prod.mk.injEq] at H
      obtain ⟨rfl, rfl, rfl, rfl, rfl, rfl, rfl⟩ := H
      go_enter Tryd.func28, Tryd.ntmps28
      go_wp2_with (first | ((with_reducible refine gate_dst (N := 4) rfl ?_); refine box_event ?hg (N := 4) ?hd (cs := #[.string (⟨#[]⟩ : ByteArray), .int .i64 0, .int .i64 0, .int .i64 0, .string (⟨#[]⟩ : ByteArray)]) (t := 53) ?hr ?_; (case hd => rfl); (case hg => rfl); (case hr => first | (go_simp; done) | (go_simp; rfl)); intro gb101 hg w6 hbox hb; have n0_ := Aside0.mk (below_step (by repeat (first | (with_reducible first | exact HB.out | apply below_alloc | apply pw_below_drewN | apply below_drew1) | exact HB.out)) hb); have n1_ := Aside0.mk (hbox); have n2_ := Aside0.mk ((by rw [hg]; exact (below_size (by repeat (first | (with_reducible first | exact HB.out | apply below_alloc | apply pw_below_drewN | apply below_drew1) | exact HB.out))) : w.heap.size ≤ gb101)); have n3_ := Aside0.mk ((by rw [hg]; exact (below_size (by repeat (first | (with_reducible first | exact HB.out | apply below_alloc | apply pw_below_drewN | apply below_drew1) | exact HB.out))) : w.heap.size ≤ gb101)); clear HB; have HB := n0_; have BK101 := n1_; have GW101 := n2_; have GE101 := n3_; clear n0_ n1_ n2_ n3_; clear hb hbox hg) | ((with_reducible refine gate_callee (f := 26) rfl ?_); refine goesL_ (some 16) rfl rfl Tryd.func26 (by kernel_rfl) rfl #[.slice A0 l0.length c0, .int .i64 a1] rfl (by (try simp only [List.map_toArray, List.map_cons, List.map_nil]); first | done | rfl | (simp only [List.length_drop, List.length_take]; rfl)) ?_; (with_reducible refine (spec_DecodeName.calls k _ _ l0 a1 t102 t103 t104 _ ?side1 ?side2 A3.out).mono ?_); (case side1 => repeat (first | exact (Kd.C_below HR0.out HB.out) | (with_reducible refine Kd.C_alloc ?_ _) | (with_reducible refine Kd.C_drewN ?_ _) | (with_reducible refine Kd.C_drew ?_))); (case side2 => exact HC0.out); rintro e w7 ⟨rfl, hb⟩; refine ⟨_, rfl, ?_⟩; have n0_ := Aside0.mk (blk_below (g := gb101) (o := .cells #[.string (⟨#[]⟩ : ByteArray), .int .i64 0, .int .i64 0, .int .i64 0, .string (⟨#[]⟩ : ByteArray)] 53 (0, 0)) (by (with_reducible repeat (first | refine blk_drewN ?_ _ | refine blk_drew ?_ | refine blk_alloc ?_ _)); exact BK101.out) hb); have n1_ := Aside0.mk (below_step (by repeat (first | (with_reducible first | exact HB.out | apply below_alloc | apply pw_below_drewN | apply below_drew1 | refine below_set ?_ GE101.out) | exact HB.out)) hb); clear BK101; clear HB; have BK101 := n0_; have HB := n1_; clear n0_ n1_; (try clear hb); (try clear hb2); (try clear hk); (try clear hi); have hcz8_0 : w7.cell? ⟨gb101, 0, none⟩ = some (.string (⟨#[]⟩ : ByteArray)) := (blk_cell BK101.out 0).trans rfl; have hcz8_1 : w7.cell? ⟨gb101, 1, none⟩ = some (.int .i64 0) := (blk_cell BK101.out 1).trans rfl; have hcz8_2 : w7.cell? ⟨gb101, 2, none⟩ = some (.int .i64 0) := (blk_cell BK101.out 2).trans rfl; have hcz8_3 : w7.cell? ⟨gb101, 3, none⟩ = some (.int .i64 0) := (blk_cell BK101.out 3).trans rfl; have hcz8_4 : w7.cell? ⟨gb101, 4, none⟩ = some (.string (⟨#[]⟩ : ByteArray)) := (blk_cell BK101.out 4).trans rfl; have hfz8_0 := blk_frozen BK101.out 0; have hfz8_1 := blk_frozen BK101.out 1; have hfz8_2 := blk_frozen BK101.out 2; have hfz8_3 := blk_frozen BK101.out 3; have hfz8_4 := blk_frozen BK101.out 4))
      refine bodyPost_ret (results_ctt rfl _ _ gb101 53 #[.string (⟨#[]⟩ : ByteArray), .int .i64 0, .int .i64 0, .int .i64 0, .string (⟨#[]⟩ : ByteArray)] (0, 0) _ rfl (by (with_reducible repeat (first | refine blk_drewN ?_ _ | refine blk_drew ?_ | refine blk_alloc ?_ _)); refine blk_put (cs := #[.string (⟨#[]⟩ : ByteArray), .int .i64 0, .int .i64 0, .int .i64 0, .string (⟨#[]⟩ : ByteArray)]) ?_ 4 _ rfl; (with_reducible repeat (first | refine blk_drewN ?_ _ | refine blk_drew ?_ | refine blk_alloc ?_ _)); refine blk_put (cs := #[.string (⟨#[]⟩ : ByteArray), .int .i64 0, .int .i64 0, .int .i64 0, .string (⟨#[]⟩ : ByteArray)]) ?_ 3 _ rfl; (with_reducible repeat (first | refine blk_drewN ?_ _ | refine blk_drew ?_ | refine blk_alloc ?_ _)); refine blk_put (cs := #[.string (⟨#[]⟩ : ByteArray), .int .i64 0, .int .i64 0, .int .i64 0, .string (⟨#[]⟩ : ByteArray)]) ?_ 2 _ rfl; (with_reducible repeat (first | refine blk_drewN ?_ _ | refine blk_drew ?_ | refine blk_alloc ?_ _)); refine blk_put (cs := #[.string (⟨#[]⟩ : ByteArray), .int .i64 0, .int .i64 0, .int .i64 0, .string (⟨#[]⟩ : ByteArray)]) ?_ 1 _ rfl; (with_reducible repeat (first | refine blk_drewN ?_ _ | refine blk_drew ?_ | refine blk_alloc ?_ _)); refine blk_put (cs := #[.string (⟨#[]⟩ : ByteArray), .int .i64 0, .int .i64 0, .int .i64 0, .string (⟨#[]⟩ : ByteArray)]) ?_ 0 _ rfl; (with_reducible repeat (first | refine blk_drewN ?_ _ | refine blk_drew ?_ | refine blk_alloc ?_ _)); exact BK101.out) Tryd.underlying53 rfl (by kernel_rfl)) rfl ?_
      exact ⟨by first | rfl | (simp [errW_none, errW_some] <;> rfl) | (simp [*, errW_none, errW_some] <;> rfl), by repeat (first | (with_reducible first | exact HB.out | apply below_alloc | apply pw_below_drewN | apply below_drew1 | refine below_set ?_ GE101.out) | exact HB.out)⟩
    · rw [if_neg c5] at H
      have c5b0 : decide ((l0.length : Int) < (wrap64 (t103 + 10))) = false := decide_eq_false c5
      clear c5
      by_cases c9 : 0 ≤ t103
      · rw [if_pos c9] at H
        have c9b0 := eq_true c9
        have c9b1 : decide (0 ≤ t103) = true := decide_eq_true c9
        clear c9
        by_cases c10 : t103 ≤ (wrap64 (t103 + 10))
        · rw [if_pos c10] at H
          have c10b0 := eq_true c10
          have c10b1 : decide (t103 ≤ (wrap64 (t103 + 10))) = true := decide_eq_true c10
          by_cases c11 : (wrap64 (t103 + 10)) ≤ (l0.length : Int)
          · rw [if_pos c11] at H
            have c11b0 := eq_true c11
            have c11b1 : decide ((wrap64 (t103 + 10)) ≤ (l0.length : Int)) = true := decide_eq_true c11
            by_cases c12 : 8 ≤ ((strOfNums ((l0.take ((wrap64 (t103 + 10)) : Int).toNat).drop (t103 : Int).toNat)).size : Int)
            · rw [if_pos c12] at H
              have c12b0 := eq_true c12
              have c12b1 : decide (8 ≤ ((strOfNums ((l0.take ((wrap64 (t103 + 10)) : Int).toNat).drop (t103 : Int).toNat)).size : Int)) = true := decide_eq_true c12
              replace H := Option.bind_eq_some_iff.mp H
              obtain ⟨t106, A130, H⟩ := H
              replace H : (if (wrap64 ((wrap64 (t103 + 10)) + t106)) > (l0.length : Int) then (some ((⟨#[]⟩ : ByteArray), 0, 0, 0, (⟨#[]⟩ : ByteArray), 0, 8)) else (if 0 ≤ 2 then (if 2 ≤ ((strOfNums ((l0.take ((wrap64 (t103 + 10)) : Int).toNat).drop (t103 : Int).toNat)).size : Int) then ((spec_l02Num.f k ((strOfNums ((l0.take ((wrap64 (t103 + 10)) : Int).toNat).drop (t103 : Int).toNat)).extract 0 2)).bind fun t107 => ((spec_l04Data.f k l0 t107 (wrap64 (t103 + 10)) (wrap64 ((wrap64 (t103 + 10)) + t106))).bind fun bt108 => (if bt108.2 = 0 then ((spec_l02Num.f k ((strOfNums ((l0.take ((wrap64 (t103 + 10)) : Int).toNat).drop (t103 : Int).toNat)).extract 0 2)).bind fun t110 => (if 2 ≤ 4 then (if 4 ≤ ((strOfNums ((l0.take ((wrap64 (t103 + 10)) : Int).toNat).drop (t103 : Int).toNat)).size : Int) then ((spec_l02Num.f k ((strOfNums ((l0.take ((wrap64 (t103 + 10)) : Int).toNat).drop (t103 : Int).toNat)).extract 2 4)).bind fun t111 => (if 4 ≤ 8 then ((spec_l02Num.f k ((strOfNums ((l0.take ((wrap64 (t103 + 10)) : Int).toNat).drop (t103 : Int).toNat)).extract 4 8)).bind fun t112 => (some (t102, t110, t111, t112, bt108.1, wrap64 ((wrap64 (t103 + 10)) + t106), 0))) else (none))) else (none)) else (none))) else (some ((⟨#[]⟩ : ByteArray), 0, 0, 0, (⟨#[]⟩ : ByteArray), 0, bt108.2))))) else (none)) else (none))) = some (r1, r2, r3, r4, r5, r6, r7) := H
              have A13 := Aside0.mk A130
              clear A130
              by_cases c14 : (wrap64 ((wrap64 (t103 + 10)) + t106)) > (l0.length : Int)
              · rw [if_pos c14] at H
                have c14b0 : decide ((l0.length : Int) < (wrap64 ((wrap64 (t103 + 10)) + t106))) = true := decide_eq_true c14
                clear c14
                simp only [Option.some.injEq, Prod.mk.injEq] at H
                obtain ⟨rfl, rfl, rfl, rfl, rfl, rfl, rfl⟩ := H
                go_enter Tryd.func28, Tryd.ntmps28
                go_wp2_with (first | ((with_reducible refine gate_dst (N := 4) rfl ?_); refine box_event ?hg (N := 4) ?hd (cs := #[.string (⟨#[]⟩ : ByteArray), .int .i64 0, .int .i64 0, .int .i64 0, .string (⟨#[]⟩ : ByteArray)]) (t := 53) ?hr ?_; (case hd => rfl); (case hg => rfl); (case hr => first | (go_simp; done) | (go_simp; rfl)); intro gb101 hg w15 hbox hb; have n0_ := Aside0.mk (below_step (by repeat (first | (with_reducible first | exact HB.out | apply below_alloc | apply pw_below_drewN | apply below_drew1) | exact HB.out)) hb); have n1_ := Aside0.mk (hbox); have n2_ := Aside0.mk ((by rw [hg]; exact (below_size (by repeat (first | (with_reducible first | exact HB.out | apply below_alloc | apply pw_below_drewN | apply below_drew1) | exact HB.out))) : w.heap.size ≤ gb101)); have n3_ := Aside0.mk ((by rw [hg]; exact (below_size (by repeat (first | (with_reducible first | exact HB.out | apply below_alloc | apply pw_below_drewN | apply below_drew1) | exact HB.out))) : w.heap.size ≤ gb101)); clear HB; have HB := n0_; have BK101 := n1_; have GW101 := n2_; have GE101 := n3_; clear n0_ n1_ n2_ n3_; clear hb hbox hg) | ((with_reducible refine gate_callee (f := 26) rfl ?_); refine goesL_ (some 16) rfl rfl Tryd.func26 (by kernel_rfl) rfl #[.slice A0 l0.length c0, .int .i64 a1] rfl (by (try simp only [List.map_toArray, List.map_cons, List.map_nil]); first | done | rfl | (simp only [List.length_drop, List.length_take]; rfl)) ?_; (with_reducible refine (spec_DecodeName.calls k _ _ l0 a1 t102 t103 t104 _ ?side1 ?side2 A3.out).mono ?_); (case side1 => repeat (first | exact (Kd.C_below HR0.out HB.out) | (with_reducible refine Kd.C_alloc ?_ _) | (with_reducible refine Kd.C_drewN ?_ _) | (with_reducible refine Kd.C_drew ?_))); (case side2 => exact HC0.out); rintro e w16 ⟨rfl, hb⟩; refine ⟨_, rfl, ?_⟩; have n0_ := Aside0.mk (blk_below (g := gb101) (o := .cells #[.string (⟨#[]⟩ : ByteArray), .int .i64 0, .int .i64 0, .int .i64 0, .string (⟨#[]⟩ : ByteArray)] 53 (0, 0)) (by (with_reducible repeat (first | refine blk_drewN ?_ _ | refine blk_drew ?_ | refine blk_alloc ?_ _)); exact BK101.out) hb); have n1_ := Aside0.mk (below_step (by repeat (first | (with_reducible first | exact HB.out | apply below_alloc | apply pw_below_drewN | apply below_drew1 | refine below_set ?_ GE101.out) | exact HB.out)) hb); clear BK101; clear HB; have BK101 := n0_; have HB := n1_; clear n0_ n1_; (try clear hb); (try clear hb2); (try clear hk); (try clear hi); obtain ⟨i017, hi017, _, hsz17, _⟩ := info_parts info5; obtain ⟨A17, hcut17, hA17, hC17⟩ := print_mid_of (P := Tryd.prog) (Value.int .u8) 0 22 5 .i64 .i64 Tryd.underlying22 hi017 hsz17 A0 c0 l0 t103 (wrap64 (t103 + 10)) (of_decide_eq_true (by first | (with_reducible assumption) | assumption)) (by first | omega | exact of_decide_eq_true (by first | (with_reducible assumption) | assumption)) (of_decide_eq_true (by first | (with_reducible assumption) | assumption)) HC0.out; have HR105 := Aside0.mk (Kd.C_of_reads (h1 := fun _ => rfl) (hA17 _ (Kd.reads_of_C HR0.out))); have HC105 := Aside0.mk hC17; clear hA17 hC17 hi017 hsz17; have hcv18 := Kd.C_string (P := Tryd.prog) (A := A17) (c := (c0 - t103.toNat)) Tryd.underlying22 Tryd.underlying5 Tryd.underlying9 (Kd.C_below HR105.out HB.out); have hcw18 := hcv18; (try simp only [List.length_drop, List.length_take] at hcw18); (try rw [Nat.min_eq_left (Int.toNat_le.2 (of_decide_eq_true (by first | (with_reducible assumption) | assumption)))] at hcw18)) | ((with_reducible refine gate_callee (f := 27) rfl ?_); refine goesL_ (some 40) rfl rfl Tryd.func27 (by kernel_rfl) rfl #[.string ((strOfNums ((l0.take ((wrap64 (t103 + 10)) : Int).toNat).drop (t103 : Int).toNat)).extract 8 (strOfNums ((l0.take ((wrap64 (t103 + 10)) : Int).toNat).drop (t103 : Int).toNat)).size)] rfl (by (try simp only [List.map_toArray, List.map_cons, List.map_nil]); first | done | rfl | (simp only [List.length_drop, List.length_take]; rfl)) ?_; (with_reducible refine (spec_l02Num.calls k ((strOfNums ((l0.take ((wrap64 (t103 + 10)) : Int).toNat).drop (t103 : Int).toNat)).extract 8 (strOfNums ((l0.take ((wrap64 (t103 + 10)) : Int).toNat).drop (t103 : Int).toNat)).size) t106 _ A13.out).mono ?_); rintro e w' ⟨rfl, ⟨nd, rfl⟩⟩; refine ⟨_, rfl, ?_⟩; (try (rw [drewN_self w16]; generalize hq_ : World.drewN w16 _ = w16; have n0_ : Aside0 (w16.heap[gb101]? = some (.cells #[.string (⟨#[]⟩ : ByteArray), .int .i64 0, .int .i64 0, .int .i64 0, .string (⟨#[]⟩ : ByteArray)] 53 (0, 0))) := ⟨by rw [← hq_]; exact (by (with_reducible repeat (first | refine blk_drewN ?_ _ | refine blk_drew ?_ | refine blk_alloc ?_ _)); exact BK101.out)⟩; have n1_ : Aside0 (Below w.heap.size w w16) := ⟨by rw [← hq_]; exact (by repeat (first | (with_reducible first | exact HB.out | apply below_alloc | apply pw_below_drewN | apply below_drew1 | refine below_set ?_ GE101.out) | exact HB.out))⟩; clear BK101 HB hq_; have BK101 := n0_; have HB := n1_; clear n0_ n1_)); have hcz19_0 : w16.cell? ⟨gb101, 0, none⟩ = some (.string (⟨#[]⟩ : ByteArray)) := (blk_cell BK101.out 0).trans rfl; have hcz19_1 : w16.cell? ⟨gb101, 1, none⟩ = some (.int .i64 0) := (blk_cell BK101.out 1).trans rfl; have hcz19_2 : w16.cell? ⟨gb101, 2, none⟩ = some (.int .i64 0) := (blk_cell BK101.out 2).trans rfl; have hcz19_3 : w16.cell? ⟨gb101, 3, none⟩ = some (.int .i64 0) := (blk_cell BK101.out 3).trans rfl; have hcz19_4 : w16.cell? ⟨gb101, 4, none⟩ = some (.string (⟨#[]⟩ : ByteArray)) := (blk_cell BK101.out 4).trans rfl; have hfz19_0 := blk_frozen BK101.out 0; have hfz19_1 := blk_frozen BK101.out 1; have hfz19_2 := blk_frozen BK101.out 2; have hfz19_3 := blk_frozen BK101.out 3; have hfz19_4 := blk_frozen BK101.out 4))
                refine bodyPost_ret (results_ctt rfl _ _ gb101 53 #[.string (⟨#[]⟩ : ByteArray), .int .i64 0, .int .i64 0, .int .i64 0, .string (⟨#[]⟩ : ByteArray)] (0, 0) _ rfl (by (with_reducible repeat (first | refine blk_drewN ?_ _ | refine blk_drew ?_ | refine blk_alloc ?_ _)); refine blk_put (cs := #[.string (⟨#[]⟩ : ByteArray), .int .i64 0, .int .i64 0, .int .i64 0, .string (⟨#[]⟩ : ByteArray)]) ?_ 4 _ rfl; (with_reducible repeat (first | refine blk_drewN ?_ _ | refine blk_drew ?_ | refine blk_alloc ?_ _)); refine blk_put (cs := #[.string (⟨#[]⟩ : ByteArray), .int .i64 0, .int .i64 0, .int .i64 0, .string (⟨#[]⟩ : ByteArray)]) ?_ 3 _ rfl; (with_reducible repeat (first | refine blk_drewN ?_ _ | refine blk_drew ?_ | refine blk_alloc ?_ _)); refine blk_put (cs := #[.string (⟨#[]⟩ : ByteArray), .int .i64 0, .int .i64 0, .int .i64 0, .string (⟨#[]⟩ : ByteArray)]) ?_ 2 _ rfl; (with_reducible repeat (first | refine blk_drewN ?_ _ | refine blk_drew ?_ | refine blk_alloc ?_ _)); refine blk_put (cs := #[.string (⟨#[]⟩ : ByteArray), .int .i64 0, .int .i64 0, .int .i64 0, .string (⟨#[]⟩ : ByteArray)]) ?_ 1 _ rfl; (with_reducible repeat (first | refine blk_drewN ?_ _ | refine blk_drew ?_ | refine blk_alloc ?_ _)); refine blk_put (cs := #[.string (⟨#[]⟩ : ByteArray), .int .i64 0, .int .i64 0, .int .i64 0, .string (⟨#[]⟩ : ByteArray)]) ?_ 0 _ rfl; (with_reducible repeat (first | refine blk_drewN ?_ _ | refine blk_drew ?_ | refine blk_alloc ?_ _)); exact BK101.out) Tryd.underlying53 rfl (by kernel_rfl)) rfl ?_
                exact ⟨by first | rfl | (simp [errW_none, errW_some] <;> rfl) | (simp [*, errW_none, errW_some] <;> rfl), by repeat (first | (with_reducible first | exact HB.out | apply below_alloc | apply pw_below_drewN | apply below_drew1 | refine below_set ?_ GE101.out) | exact HB.out)⟩
              · rw [if_neg c14] at H
                have c14b0 : decide ((l0.length : Int) < (wrap64 ((wrap64 (t103 + 10)) + t106))) = false := decide_eq_false c14
                clear c14
                by_cases c20 : 0 ≤ 2
                · rw [if_pos c20] at H
                  have c20b0 := eq_true c20
                  have c20b1 : decide (0 ≤ 2) = true := decide_eq_true c20
                  clear c20
                  by_cases c21 : 2 ≤ ((strOfNums ((l0.take ((wrap64 (t103 + 10)) : Int).toNat).drop (t103 : Int).toNat)).size : Int)
                  · rw [if_pos c21] at H
                    have c21b0 := eq_true c21
                    have c21b1 : decide (2 ≤ ((strOfNums ((l0.take ((wrap64 (t103 + 10)) : Int).toNat).drop (t103 : Int).toNat)).size : Int)) = true := decide_eq_true c21
                    replace H := Option.bind_eq_some_iff.mp H
                    obtain ⟨t107, A220, H⟩ := H
                    replace H : ((spec_l04Data.f k l0 t107 (wrap64 (t103 + 10)) (wrap64 ((wrap64 (t103 + 10)) + t106))).bind fun bt108 => (if bt108.2 = 0 then ((spec_l02Num.f k ((strOfNums ((l0.take ((wrap64 (t103 + 10)) : Int).toNat).drop (t103 : Int).toNat)).extract 0 2)).bind fun t110 => (if 2 ≤ 4 then (if 4 ≤ ((strOfNums ((l0.take ((wrap64 (t103 + 10)) : Int).toNat).drop (t103 : Int).toNat)).size : Int) then ((spec_l02Num.f k ((strOfNums ((l0.take ((wrap64 (t103 + 10)) : Int).toNat).drop (t103 : Int).toNat)).extract 2 4)).bind fun t111 => (if 4 ≤ 8 then ((spec_l02Num.f k ((strOfNums ((l0.take ((wrap64 (t103 + 10)) : Int).toNat).drop (t103 : Int).toNat)).extract 4 8)).bind fun t112 => (some (t102, t110, t111, t112, bt108.1, wrap64 ((wrap64 (t103 + 10)) + t106), 0))) else (none))) else (none)) else (none))) else (some ((⟨#[]⟩ : ByteArray), 0, 0, 0, (⟨#[]⟩ : ByteArray), 0, bt108.2)))) = some (r1, r2, r3, r4, r5, r6, r7) := H
                    have A22 := Aside0.mk A220
                    clear A220
                    replace H := Option.bind_eq_some_iff.mp H
                    obtain ⟨⟨t108, t109⟩, A230, H⟩ := H
                    replace H : (if t109 = 0 then ((spec_l02Num.f k ((strOfNums ((l0.take ((wrap64 (t103 + 10)) : Int).toNat).drop (t103 : Int).toNat)).extract 0 2)).bind fun t110 => (if 2 ≤ 4 then (if 4 ≤ ((strOfNums ((l0.take ((wrap64 (t103 + 10)) : Int).toNat).drop (t103 : Int).toNat)).size : Int) then ((spec_l02Num.f k ((strOfNums ((l0.take ((wrap64 (t103 + 10)) : Int).toNat).drop (t103 : Int).toNat)).extract 2 4)).bind fun t111 => (if 4 ≤ 8 then ((spec_l02Num.f k ((strOfNums ((l0.take ((wrap64 (t103 + 10)) : Int).toNat).drop (t103 : Int).toNat)).extract 4 8)).bind fun t112 => (some (t102, t110, t111, t112, t108, wrap64 ((wrap64 (t103 + 10)) + t106), 0))) else (none))) else (none)) else (none))) else (some ((⟨#[]⟩ : ByteArray), 0, 0, 0, (⟨#[]⟩ : ByteArray), 0, t109))) = some (r1, r2, r3, r4, r5, r6, r7) := H
                    have A23 := Aside0.mk A230
                    clear A230
                    by_cases c24 : t109 = 0
                    · rw [if_pos c24] at H
                      have c24b0 : (t109 == 0) = true := beq_iff_eq.mpr c24
                      have c24b1 : (t109 != 0) = false := bne_eq_false_iff_eq.mpr c24
                      clear c24
                      have c25b0 := eq_true (of_decide_eq_true (by first | (with_reducible assumption) | assumption) : 0 ≤ 2)
                      have c26b0 := eq_true (of_decide_eq_true (by first | (with_reducible assumption) | assumption) : 2 ≤ ((strOfNums ((l0.take ((wrap64 (t103 + 10)) : Int).toNat).drop (t103 : Int).toNat)).size : Int))
                      replace H := Option.bind_eq_some_iff.mp H
                      obtain ⟨t110, A270, H⟩ := H
                      replace H : (if 2 ≤ 4 then (if 4 ≤ ((strOfNums ((l0.take ((wrap64 (t103 + 10)) : Int).toNat).drop (t103 : Int).toNat)).size : Int) then ((spec_l02Num.f k ((strOfNums ((l0.take ((wrap64 (t103 + 10)) : Int).toNat).drop (t103 : Int).toNat)).extract 2 4)).bind fun t111 => (if 4 ≤ 8 then ((spec_l02Num.f k ((strOfNums ((l0.take ((wrap64 (t103 + 10)) : Int).toNat).drop (t103 : Int).toNat)).extract 4 8)).bind fun t112 => (some (t102, t110, t111, t112, t108, wrap64 ((wrap64 (t103 + 10)) + t106), 0))) else (none))) else (none)) else (none)) = some (r1, r2, r3, r4, r5, r6, r7) := H
                      have A27 := Aside0.mk A270
                      clear A270
                      by_cases c28 : 2 ≤ 4
                      · rw [if_pos c28] at H
                        have c28b0 := eq_true c28
                        have c28b1 : decide (2 ≤ 4) = true := decide_eq_true c28
                        clear c28
                        by_cases c29 : 4 ≤ ((strOfNums ((l0.take ((wrap64 (t103 + 10)) : Int).toNat).drop (t103 : Int).toNat)).size : Int)
                        · rw [if_pos c29] at H
                          have c29b0 := eq_true c29
                          have c29b1 : decide (4 ≤ ((strOfNums ((l0.take ((wrap64 (t103 + 10)) : Int).toNat).drop (t103 : Int).toNat)).size : Int)) = true := decide_eq_true c29
                          replace H := Option.bind_eq_some_iff.mp H
                          obtain ⟨t111, A300, H⟩ := H
                          replace H : (if 4 ≤ 8 then ((spec_l02Num.f k ((strOfNums ((l0.take ((wrap64 (t103 + 10)) : Int).toNat).drop (t103 : Int).toNat)).extract 4 8)).bind fun t112 => (some (t102, t110, t111, t112, t108, wrap64 ((wrap64 (t103 + 10)) + t106), 0))) else (none)) = some (r1, r2, r3, r4, r5, r6, r7) := H
                          have A30 := Aside0.mk A300
                          clear A300
                          by_cases c31 : 4 ≤ 8
                          · rw [if_pos c31] at H
                            have c31b0 := eq_true c31
                            have c31b1 : decide (4 ≤ 8) = true := decide_eq_true c31
                            clear c31
                            have c32b0 := eq_true (of_decide_eq_true (by first | (with_reducible assumption) | assumption) : 8 ≤ ((strOfNums ((l0.take ((wrap64 (t103 + 10)) : Int).toNat).drop (t103 : Int).toNat)).size : Int))
                            replace H := Option.bind_eq_some_iff.mp H
                            obtain ⟨t112, A330, H⟩ := H
                            replace H : (some (t102, t110, t111, t112, t108, wrap64 ((wrap64 (t103 + 10)) + t106), 0)) = some (r1, r2, r3, r4, r5, r6, r7) := H
                            have A33 := Aside0.mk A330
                            clear A330
                            simp only [Option.some.injEq, Prod.mk.injEq] at H
                            obtain ⟨rfl, rfl, rfl, rfl, rfl, rfl, rfl⟩ := H
                            go_enter Tryd.func28, Tryd.ntmps28
                            try go_wp2_with (first | ((with_reducible refine gate_dst (N := 4) rfl ?_); refine box_event ?hg (N := 4) ?hd (cs := #[.string (⟨#[]⟩ : ByteArray), .int .i64 0, .int .i64 0, .int .i64 0, .string (⟨#[]⟩ : ByteArray)]) (t := 53) ?hr ?_; (case hd => rfl); (case hg => rfl); (case hr => first | (go_simp; done) | (go_simp; rfl)); intro gb101 hg w34 hbox hb; have n0_ := Aside0.mk (below_step (by repeat (first | (with_reducible first | exact HB.out | apply below_alloc | apply pw_below_drewN | apply below_drew1) | exact HB.out)) hb); have n1_ := Aside0.mk (hbox); have n2_ := Aside0.mk ((by rw [hg]; exact (below_size (by repeat (first | (with_reducible first | exact HB.out | apply below_alloc | apply pw_below_drewN | apply below_drew1) | exact HB.out))) : w.heap.size ≤ gb101)); have n3_ := Aside0.mk ((by rw [hg]; exact (below_size (by repeat (first | (with_reducible first | exact HB.out | apply below_alloc | apply pw_below_drewN | apply below_drew1) | exact HB.out))) : w.heap.size ≤ gb101)); clear HB; have HB := n0_; have BK101 := n1_; have GW101 := n2_; have GE101 := n3_; clear n0_ n1_ n2_ n3_; clear hb hbox hg) | ((with_reducible refine gate_callee (f := 26) rfl ?_); refine goesL_ (some 16) rfl rfl Tryd.func26 (by kernel_rfl) rfl #[.slice A0 l0.length c0, .int .i64 a1] rfl (by (try simp only [List.map_toArray, List.map_cons, List.map_nil]); first | done | rfl | (simp only [List.length_drop, List.length_take]; rfl)) ?_; (with_reducible refine (spec_DecodeName.calls k _ _ l0 a1 t102 t103 t104 _ ?side1 ?side2 A3.out).mono ?_); (case side1 => repeat (first | exact (Kd.C_below HR0.out HB.out) | (with_reducible refine Kd.C_alloc ?_ _) | (with_reducible refine Kd.C_drewN ?_ _) | (with_reducible refine Kd.C_drew ?_))); (case side2 => exact HC0.out); rintro e w35 ⟨rfl, hb⟩; refine ⟨_, rfl, ?_⟩; have n0_ := Aside0.mk (blk_below (g := gb101) (o := .cells #[.string (⟨#[]⟩ : ByteArray), .int .i64 0, .int .i64 0, .int .i64 0, .string (⟨#[]⟩ : ByteArray)] 53 (0, 0)) (by (with_reducible repeat (first | refine blk_drewN ?_ _ | refine blk_drew ?_ | refine blk_alloc ?_ _)); exact BK101.out) hb); have n1_ := Aside0.mk (below_step (by repeat (first | (with_reducible first | exact HB.out | apply below_alloc | apply pw_below_drewN | apply below_drew1 | refine below_set ?_ GE101.out) | exact HB.out)) hb); clear BK101; clear HB; have BK101 := n0_; have HB := n1_; clear n0_ n1_; (try clear hb); (try clear hb2); (try clear hk); (try clear hi); obtain ⟨i036, hi036, _, hsz36, _⟩ := info_parts info5; obtain ⟨A36, hcut36, hA36, hC36⟩ := print_mid_of (P := Tryd.prog) (Value.int .u8) 0 22 5 .i64 .i64 Tryd.underlying22 hi036 hsz36 A0 c0 l0 t103 (wrap64 (t103 + 10)) (of_decide_eq_true (by first | (with_reducible assumption) | assumption)) (by first | omega | exact of_decide_eq_true (by first | (with_reducible assumption) | assumption)) (of_decide_eq_true (by first | (with_reducible assumption) | assumption)) HC0.out; have HR105 := Aside0.mk (Kd.C_of_reads (h1 := fun _ => rfl) (hA36 _ (Kd.reads_of_C HR0.out))); have HC105 := Aside0.mk hC36; clear hA36 hC36 hi036 hsz36; have hcv37 := Kd.C_string (P := Tryd.prog) (A := A36) (c := (c0 - t103.toNat)) Tryd.underlying22 Tryd.underlying5 Tryd.underlying9 (Kd.C_below HR105.out HB.out); have hcw37 := hcv37; (try simp only [List.length_drop, List.length_take] at hcw37); (try rw [Nat.min_eq_left (Int.toNat_le.2 (of_decide_eq_true (by first | (with_reducible assumption) | assumption)))] at hcw37)) | ((with_reducible refine gate_callee (f := 27) rfl ?_); refine goesL_ (some 40) rfl rfl Tryd.func27 (by kernel_rfl) rfl #[.string ((strOfNums ((l0.take ((wrap64 (t103 + 10)) : Int).toNat).drop (t103 : Int).toNat)).extract 8 (strOfNums ((l0.take ((wrap64 (t103 + 10)) : Int).toNat).drop (t103 : Int).toNat)).size)] rfl (by (try simp only [List.map_toArray, List.map_cons, List.map_nil]); first | done | rfl | (simp only [List.length_drop, List.length_take]; rfl)) ?_; (with_reducible refine (spec_l02Num.calls k ((strOfNums ((l0.take ((wrap64 (t103 + 10)) : Int).toNat).drop (t103 : Int).toNat)).extract 8 (strOfNums ((l0.take ((wrap64 (t103 + 10)) : Int).toNat).drop (t103 : Int).toNat)).size) t106 _ A13.out).mono ?_); rintro e w' ⟨rfl, ⟨nd, rfl⟩⟩; refine ⟨_, rfl, ?_⟩; (try (rw [drewN_self w35]; generalize hq_ : World.drewN w35 _ = w35; have n0_ : Aside0 (w35.heap[gb101]? = some (.cells #[.string (⟨#[]⟩ : ByteArray), .int .i64 0, .int .i64 0, .int .i64 0, .string (⟨#[]⟩ : ByteArray)] 53 (0, 0))) := ⟨by rw [← hq_]; exact (by (with_reducible repeat (first | refine blk_drewN ?_ _ | refine blk_drew ?_ | refine blk_alloc ?_ _)); exact BK101.out)⟩; have n1_ : Aside0 (Below w.heap.size w w35) := ⟨by rw [← hq_]; exact (by repeat (first | (with_reducible first | exact HB.out | apply below_alloc | apply pw_below_drewN | apply below_drew1 | refine below_set ?_ GE101.out) | exact HB.out))⟩; clear BK101 HB hq_; have BK101 := n0_; have HB := n1_; clear n0_ n1_))) | ((with_reducible refine gate_callee (f := 27) rfl ?_); refine goesL_ (some 51) rfl rfl Tryd.func27 (by kernel_rfl) rfl #[.string ((strOfNums ((l0.take ((wrap64 (t103 + 10)) : Int).toNat).drop (t103 : Int).toNat)).extract 0 2)] rfl (by (try simp only [List.map_toArray, List.map_cons, List.map_nil]); first | done | rfl | (simp only [List.length_drop, List.length_take]; rfl)) ?_; (with_reducible refine (spec_l02Num.calls k ((strOfNums ((l0.take ((wrap64 (t103 + 10)) : Int).toNat).drop (t103 : Int).toNat)).extract 0 2) t107 _ A22.out).mono ?_); rintro e w' ⟨rfl, ⟨nd, rfl⟩⟩; refine ⟨_, rfl, ?_⟩; (try (rw [drewN_self w35]; generalize hq_ : World.drewN w35 _ = w35; have n0_ : Aside0 (w35.heap[gb101]? = some (.cells #[.string (⟨#[]⟩ : ByteArray), .int .i64 0, .int .i64 0, .int .i64 0, .string (⟨#[]⟩ : ByteArray)] 53 (0, 0))) := ⟨by rw [← hq_]; exact (by (with_reducible repeat (first | refine blk_drewN ?_ _ | refine blk_drew ?_ | refine blk_alloc ?_ _)); exact BK101.out)⟩; have n1_ : Aside0 (Below w.heap.size w w35) := ⟨by rw [← hq_]; exact (by repeat (first | (with_reducible first | exact HB.out | apply below_alloc | apply pw_below_drewN | apply below_drew1 | refine below_set ?_ GE101.out) | exact HB.out))⟩; clear BK101 HB hq_; have BK101 := n0_; have HB := n1_; clear n0_ n1_))) | ((with_reducible refine gate_callee (f := 39) rfl ?_); refine goesL_ (some 55) rfl rfl Tryd.func39 (by kernel_rfl) rfl #[.slice A0 l0.length c0, .int .i64 t107, .int .i64 (wrap64 (t103 + 10)), .int .i64 (wrap64 ((wrap64 (t103 + 10)) + t106))] rfl (by (try simp only [List.map_toArray, List.map_cons, List.map_nil]); first | done | rfl | (simp only [List.length_drop, List.length_take]; rfl)) ?_; (with_reducible refine (spec_l04Data.calls k _ _ l0 t107 (wrap64 (t103 + 10)) (wrap64 ((wrap64 (t103 + 10)) + t106)) t108 t109 _ ?side1 ?side2 A23.out).mono ?_); (case side1 => repeat (first | exact (Kd.C_below HR0.out HB.out) | (with_reducible refine Kd.C_alloc ?_ _) | (with_reducible refine Kd.C_drewN ?_ _) | (with_reducible refine Kd.C_drew ?_))); (case side2 => exact HC0.out); rintro e w38 ⟨rfl, hb⟩; refine ⟨_, rfl, ?_⟩; have n0_ := Aside0.mk (blk_below (g := gb101) (o := .cells #[.string (⟨#[]⟩ : ByteArray), .int .i64 0, .int .i64 0, .int .i64 0, .string (⟨#[]⟩ : ByteArray)] 53 (0, 0)) (by (with_reducible repeat (first | refine blk_drewN ?_ _ | refine blk_drew ?_ | refine blk_alloc ?_ _)); exact BK101.out) hb); have n1_ := Aside0.mk (below_step (by repeat (first | (with_reducible first | exact HB.out | apply below_alloc | apply pw_below_drewN | apply below_drew1 | refine below_set ?_ GE101.out) | exact HB.out)) hb); clear BK101; clear HB; have BK101 := n0_; have HB := n1_; clear n0_ n1_; (try clear hb); (try clear hb2); (try clear hk); (try clear hi)))
                            have n0_ := Aside0.mk (blk_drew BK101.out)
                            have n1_ := Aside0.mk (below_drew1 HB.out)
                            clear BK101
                            clear HB
                            have BK101 := n0_
                            have HB := n1_
                            clear n0_ n1_
                            refine start_ (n := 16) (S := fun w' => True) (ds := []) #[false, false, false, false, false, false, false, false, false, false, false, false, false, false, false, false] (by kernel_rfl) rfl rfl trivial (fun hHeld => ?_); refine with_tabW spec_l04Record.tab13 spec_l04Record.bits13 (fun HT_ HW_ => ?_)
                            generalize w38.drew = w39 at BK101 HB hHeld ⊢
                            refine pure_ (i := 0) (N := some 62) (v := ?_) (a' := ?_) #[true, false, false, false, false, false, false, false, false, false, false, false, false, false, false, false] rfl rfl (any_of HT_.out (by kernel_rfl)) (fun _ _ _ h => h) (Or.inl ⟨by rfl, ?_⟩) ?_ ?_
                            rotate_left
                            · intro w'
                              go_simp
                              with_reducible rfl
                            rotate_left
                            · simp only [Act.put, List.setIfInBounds_toArray, List.set_cons_zero, List.set_cons_succ, i64_w, i32_w]
                              rfl
                            refine pure_ (i := 1) (N := some 63) (v := ?_) (a' := ?_) #[true, true, false, false, false, false, false, false, false, false, false, false, false, false, false, false] rfl rfl (any_of HT_.out (by kernel_rfl)) (fun _ _ _ h => h) (Or.inl ⟨by rfl, ?_⟩) ?_ ?_
                            rotate_left
                            · intro w'
                              go_simp
                              with_reducible rfl
                            rotate_left
                            · simp only [Act.put, List.setIfInBounds_toArray, List.set_cons_zero, List.set_cons_succ, i64_w, i32_w]
                              rfl
                            refine pure_ (i := 2) (N := some 64) (v := ?_) (a' := ?_) #[true, true, true, false, false, false, false, false, false, false, false, false, false, false, false, false] rfl rfl (any_of HT_.out (by kernel_rfl)) (fun _ _ _ h => h) (Or.inl ⟨by rfl, ?_⟩) ?_ ?_
                            rotate_left
                            · intro w'
                              go_simp
                              with_reducible rfl
                            rotate_left
                            · simp only [Act.put, List.setIfInBounds_toArray, List.set_cons_zero, List.set_cons_succ, i64_w, i32_w]
                              rfl
                            refine pure_ (i := 4) (N := some 66) (v := ?_) (a' := ?_) #[true, true, true, false, true, false, false, false, false, false, false, false, false, false, false, false] rfl rfl (any_of HT_.out (by kernel_rfl)) (fun _ _ _ h => h) (Or.inl ⟨by rfl, ?_⟩) ?_ ?_
                            rotate_left
                            · intro w'
                              go_simp
                              with_reducible rfl
                            rotate_left
                            · simp only [Act.put, List.setIfInBounds_toArray, List.set_cons_zero, List.set_cons_succ, i64_w, i32_w]
                              rfl
                            refine pure_ (i := 5) (N := some 67) (v := ?_) (a' := ?_) #[true, true, true, false, true, true, false, false, false, false, false, false, false, false, false, false] rfl rfl (any_of HT_.out (by kernel_rfl)) (fun _ _ _ h => h) (Or.inl ⟨by rfl, ?_⟩) ?_ ?_
                            rotate_left
                            · intro w'
                              go_simp
                              with_reducible rfl
                            rotate_left
                            · simp only [Act.put, List.setIfInBounds_toArray, List.set_cons_zero, List.set_cons_succ, i64_w, i32_w]
                              rfl
                            refine pure_ (i := 7) (N := some 69) (v := ?_) (a' := ?_) #[true, true, true, false, true, true, false, true, false, false, false, false, false, false, false, false] rfl rfl (any_of HT_.out (by kernel_rfl)) (fun _ _ _ h => h) (Or.inl ⟨by rfl, ?_⟩) ?_ ?_
                            rotate_left
                            · intro w'
                              go_simp
                              with_reducible rfl
                            rotate_left
                            · simp only [Act.put, List.setIfInBounds_toArray, List.set_cons_zero, List.set_cons_succ, i64_w, i32_w]
                              rfl
                            refine pure_ (i := 8) (N := some 70) (v := ?_) (a' := ?_) #[true, true, true, false, true, true, false, true, true, false, false, false, false, false, false, false] rfl rfl (any_of HT_.out (by kernel_rfl)) (fun _ _ _ h => h) (Or.inl ⟨by rfl, ?_⟩) ?_ ?_
                            rotate_left
                            · intro w'
                              go_simp
                              with_reducible rfl
                            rotate_left
                            · simp only [Act.put, List.setIfInBounds_toArray, List.set_cons_zero, List.set_cons_succ, i64_w, i32_w]
                              rfl
                            refine pure_ (i := 10) (N := some 72) (v := ?_) (a' := ?_) #[true, true, true, false, true, true, false, true, true, false, true, false, false, false, false, false] rfl rfl (any_of HT_.out (by kernel_rfl)) (fun _ _ _ h => h) (Or.inl ⟨by rfl, ?_⟩) ?_ ?_
                            rotate_left
                            · intro w'
                              go_simp
                              with_reducible rfl
                            rotate_left
                            · simp only [Act.put, List.setIfInBounds_toArray, List.set_cons_zero, List.set_cons_succ, i64_w, i32_w]
                              rfl
                            refine pure_ (i := 12) (N := some 74) (v := ?_) (a' := ?_) #[true, true, true, false, true, true, false, true, true, false, true, false, true, false, false, false] rfl rfl (any_of HT_.out (by kernel_rfl)) (fun _ _ _ h => h) (Or.inl ⟨by rfl, ?_⟩) ?_ ?_
                            rotate_left
                            · intro w'
                              go_simp
                              with_reducible rfl
                            rotate_left
                            · simp only [Act.put, List.setIfInBounds_toArray, List.set_cons_zero, List.set_cons_succ, i64_w, i32_w]
                              rfl
                            refine one_ (i := 3) (N := some 65) #[true, true, true, true, true, true, false, true, true, false, true, false, true, false, false, false] rfl rfl (one_of HT_.out (by kernel_rfl)) (by decide) (fun K hK => ?_)
                            refine goes_ Tryd.func27 (by kernel_rfl) rfl #[.string ((strOfNums ((l0.take ((wrap64 (t103 + 10)) : Int).toNat).drop (t103 : Int).toNat)).extract 0 2)] (by rfl) rfl rfl (by (try simp only [List.map_toArray, List.map_cons, List.map_nil]); first | done | rfl | (simp only [List.length_drop, List.length_take]; rfl)) ?_
                            with_reducible refine (spec_l02Num.calls k ((strOfNums ((l0.take ((wrap64 (t103 + 10)) : Int).toNat).drop (t103 : Int).toNat)).extract 0 2) t110 _ A27.out).mono ?_
                            rintro e w' ⟨rfl, ⟨nd, rfl⟩⟩
                            refine ⟨_, rfl, ?_⟩
                            refine hK.out _ _ trivial (fun hHeld => ?_)
                            clear hK K
                            refine norm_ (a' := ?_) ?_ ?_
                            rotate_left
                            · show Act.put _ (some 65) _ = _
                              simp only [Act.put, List.setIfInBounds_toArray, List.set_cons_zero, List.set_cons_succ, i64_w, i32_w]
                              rfl
                            refine one_ (i := 6) (N := some 68) #[true, true, true, true, true, true, true, true, true, false, true, false, true, false, false, false] rfl rfl (one_of HT_.out (by kernel_rfl)) (by decide) (fun K hK => ?_)
                            refine goes_ Tryd.func27 (by kernel_rfl) rfl #[.string ((strOfNums ((l0.take ((wrap64 (t103 + 10)) : Int).toNat).drop (t103 : Int).toNat)).extract 2 4)] (by rfl) rfl rfl (by (try simp only [List.map_toArray, List.map_cons, List.map_nil]); first | done | rfl | (simp only [List.length_drop, List.length_take]; rfl)) ?_
                            with_reducible refine (spec_l02Num.calls k ((strOfNums ((l0.take ((wrap64 (t103 + 10)) : Int).toNat).drop (t103 : Int).toNat)).extract 2 4) t111 _ A30.out).mono ?_
                            rintro e w' ⟨rfl, ⟨nd, rfl⟩⟩
                            refine ⟨_, rfl, ?_⟩
                            refine hK.out _ _ trivial (fun hHeld => ?_)
                            clear hK K
                            refine norm_ (a' := ?_) ?_ ?_
                            rotate_left
                            · show Act.put _ (some 68) _ = _
                              simp only [Act.put, List.setIfInBounds_toArray, List.set_cons_zero, List.set_cons_succ, i64_w, i32_w]
                              rfl
                            refine one_ (i := 9) (N := some 71) #[true, true, true, true, true, true, true, true, true, true, true, false, true, false, false, false] rfl rfl (one_of HT_.out (by kernel_rfl)) (by decide) (fun K hK => ?_)
                            refine goes_ Tryd.func27 (by kernel_rfl) rfl #[.string ((strOfNums ((l0.take ((wrap64 (t103 + 10)) : Int).toNat).drop (t103 : Int).toNat)).extract 4 8)] (by rfl) rfl rfl (by (try simp only [List.map_toArray, List.map_cons, List.map_nil]); first | done | rfl | (simp only [List.length_drop, List.length_take]; rfl)) ?_
                            with_reducible refine (spec_l02Num.calls k ((strOfNums ((l0.take ((wrap64 (t103 + 10)) : Int).toNat).drop (t103 : Int).toNat)).extract 4 8) t112 _ A33.out).mono ?_
                            rintro e w' ⟨rfl, ⟨nd, rfl⟩⟩
                            refine ⟨_, rfl, ?_⟩
                            refine hK.out _ _ trivial (fun hHeld => ?_)
                            clear hK K
                            refine norm_ (a' := ?_) ?_ ?_
                            rotate_left
                            · show Act.put _ (some 71) _ = _
                              simp only [Act.put, List.setIfInBounds_toArray, List.set_cons_zero, List.set_cons_succ, i64_w, i32_w]
                              rfl
                            refine pure_ (i := 11) (N := some 73) (v := ?_) (a' := ?_) #[true, true, true, true, true, true, true, true, true, true, true, true, true, false, false, false] rfl rfl (any_of HT_.out (by kernel_rfl)) (fun _ _ _ h => h) (Or.inl ⟨by rfl, ?_⟩) ?_ ?_
                            rotate_left
                            · intro w'
                              go_simp
                              with_reducible rfl
                            rotate_left
                            · simp only [Act.put, List.setIfInBounds_toArray, List.set_cons_zero, List.set_cons_succ, i64_w, i32_w]
                              rfl
                            refine one_ (i := 13) (N := none) #[true, true, true, true, true, true, true, true, true, true, true, true, true, true, false, false] rfl rfl (one_of HT_.out (by kernel_rfl)) (by decide) (fun K hK => ?_)
                            have hs40 : w39.cell? ⟨gb101, 0, none⟩ = some (.string (⟨#[]⟩ : ByteArray)) := (blk_cell BK101.out 0).trans rfl
                            have hfs40 := blk_frozen BK101.out 0
                            have hs41 : w39.cell? ⟨gb101, 1, none⟩ = some (.int .i64 0) := (blk_cell BK101.out 1).trans rfl
                            have hfs41 := blk_frozen BK101.out 1
                            have hs42 : w39.cell? ⟨gb101, 2, none⟩ = some (.int .i64 0) := (blk_cell BK101.out 2).trans rfl
                            have hfs42 := blk_frozen BK101.out 2
                            have hs43 : w39.cell? ⟨gb101, 3, none⟩ = some (.int .i64 0) := (blk_cell BK101.out 3).trans rfl
                            have hfs43 := blk_frozen BK101.out 3
                            have hs44 : w39.cell? ⟨gb101, 4, none⟩ = some (.string (⟨#[]⟩ : ByteArray)) := (blk_cell BK101.out 4).trans rfl
                            have hfs44 := blk_frozen BK101.out 4
                            refine skip_ (w1 := ?_) (by rfl) rfl ?_ ?_
                            rotate_left
                            · go_simp
                              rfl
                            refine hK.out _ _ trivial (fun hHeld => ?_)
                            clear hK K
                            refine pure_ (i := 14) (N := some 5) (v := ?_) (a' := ?_) #[true, true, true, true, true, true, true, true, true, true, true, true, true, true, true, false] rfl rfl (any_of HT_.out (by kernel_rfl)) (fun _ _ _ h => h) (Or.inl ⟨by rfl, ?_⟩) ?_ ?_
                            rotate_left
                            · intro w'
                              go_simp
                              with_reducible rfl
                            rotate_left
                            · simp only [Act.put, List.setIfInBounds_toArray, List.set_cons_zero, List.set_cons_succ, i64_w, i32_w]
                              rfl
                            refine pure_ (i := 15) (N := some 6) (v := ?_) (a' := ?_) #[true, true, true, true, true, true, true, true, true, true, true, true, true, true, true, true] rfl rfl (any_of HT_.out (by kernel_rfl)) (fun _ _ _ h => h) (Or.inl ⟨by rfl, ?_⟩) ?_ ?_
                            rotate_left
                            · intro w'
                              go_simp
                              with_reducible rfl
                            rotate_left
                            · simp only [Act.put, List.setIfInBounds_toArray, List.set_cons_zero, List.set_cons_succ, i64_w, i32_w]
                              rfl
                            refine done_ (done_of HT_.out (by kernel_rfl)) ?_
                            try go_wp2
                            refine bodyPost_ret (results_ctt rfl _ _ gb101 53 #[.string t102, .int .i64 t110, .int .i64 t111, .int .i64 t112, .string t108] (0, 0) _ rfl (by (with_reducible repeat (first | refine blk_drewN ?_ _ | refine blk_drew ?_ | refine blk_alloc ?_ _)); refine blk_put (cs := #[.string t102, .int .i64 t110, .int .i64 t111, .int .i64 t112, .string (⟨#[]⟩ : ByteArray)]) ?_ 4 _ rfl; (with_reducible repeat (first | refine blk_drewN ?_ _ | refine blk_drew ?_ | refine blk_alloc ?_ _)); refine blk_put (cs := #[.string t102, .int .i64 t110, .int .i64 t111, .int .i64 0, .string (⟨#[]⟩ : ByteArray)]) ?_ 3 _ rfl; (with_reducible repeat (first | refine blk_drewN ?_ _ | refine blk_drew ?_ | refine blk_alloc ?_ _)); refine blk_put (cs := #[.string t102, .int .i64 t110, .int .i64 0, .int .i64 0, .string (⟨#[]⟩ : ByteArray)]) ?_ 2 _ rfl; (with_reducible repeat (first | refine blk_drewN ?_ _ | refine blk_drew ?_ | refine blk_alloc ?_ _)); refine blk_put (cs := #[.string t102, .int .i64 0, .int .i64 0, .int .i64 0, .string (⟨#[]⟩ : ByteArray)]) ?_ 1 _ rfl; (with_reducible repeat (first | refine blk_drewN ?_ _ | refine blk_drew ?_ | refine blk_alloc ?_ _)); refine blk_put (cs := #[.string (⟨#[]⟩ : ByteArray), .int .i64 0, .int .i64 0, .int .i64 0, .string (⟨#[]⟩ : ByteArray)]) ?_ 0 _ rfl; (with_reducible repeat (first | refine blk_drewN ?_ _ | refine blk_drew ?_ | refine blk_alloc ?_ _)); exact BK101.out) Tryd.underlying53 rfl (by kernel_rfl)) rfl ?_
                            exact ⟨by first | rfl | (simp [errW_none, errW_some] <;> rfl) | (simp [*, errW_none, errW_some] <;> rfl), by repeat (first | (with_reducible first | exact HB.out | apply below_alloc | apply pw_below_drewN | apply below_drew1 | refine below_set ?_ GE101.out) | exact HB.out)⟩
                          · rw [if_neg c31] at H
                            exact absurd H (by simp)
                        · rw [if_neg c29] at H
                          exact absurd H (by simp)
                      · rw [if_neg c28] at H
                        exact absurd H (by simp)
                    · rw [if_neg c24] at H
                      have c24b0 : (t109 == 0) = false := beq_eq_false_iff_ne.mpr c24
                      have c24b1 : (t109 != 0) = true := bne_iff_ne.mpr c24
                      simp only [Option.some.injEq, Prod.mk.injEq] at H
                      obtain ⟨rfl, rfl, rfl, rfl, rfl, rfl, rfl⟩ := H
                      go_enter Tryd.func28, Tryd.ntmps28
                      go_wp2_with (first | ((with_reducible refine gate_dst (N := 4) rfl ?_); refine box_event ?hg (N := 4) ?hd (cs := #[.string (⟨#[]⟩ : ByteArray), .int .i64 0, .int .i64 0, .int .i64 0, .string (⟨#[]⟩ : ByteArray)]) (t := 53) ?hr ?_; (case hd => rfl); (case hg => rfl); (case hr => first | (go_simp; done) | (go_simp; rfl)); intro gb101 hg w45 hbox hb; have n0_ := Aside0.mk (below_step (by repeat (first | (with_reducible first | exact HB.out | apply below_alloc | apply pw_below_drewN | apply below_drew1) | exact HB.out)) hb); have n1_ := Aside0.mk (hbox); have n2_ := Aside0.mk ((by rw [hg]; exact (below_size (by repeat (first | (with_reducible first | exact HB.out | apply below_alloc | apply pw_below_drewN | apply below_drew1) | exact HB.out))) : w.heap.size ≤ gb101)); have n3_ := Aside0.mk ((by rw [hg]; exact (below_size (by repeat (first | (with_reducible first | exact HB.out | apply below_alloc | apply pw_below_drewN | apply below_drew1) | exact HB.out))) : w.heap.size ≤ gb101)); clear HB; have HB := n0_; have BK101 := n1_; have GW101 := n2_; have GE101 := n3_; clear n0_ n1_ n2_ n3_; clear hb hbox hg) | ((with_reducible refine gate_callee (f := 26) rfl ?_); refine goesL_ (some 16) rfl rfl Tryd.func26 (by kernel_rfl) rfl #[.slice A0 l0.length c0, .int .i64 a1] rfl (by (try simp only [List.map_toArray, List.map_cons, List.map_nil]); first | done | rfl | (simp only [List.length_drop, List.length_take]; rfl)) ?_; (with_reducible refine (spec_DecodeName.calls k _ _ l0 a1 t102 t103 t104 _ ?side1 ?side2 A3.out).mono ?_); (case side1 => repeat (first | exact (Kd.C_below HR0.out HB.out) | (with_reducible refine Kd.C_alloc ?_ _) | (with_reducible refine Kd.C_drewN ?_ _) | (with_reducible refine Kd.C_drew ?_))); (case side2 => exact HC0.out); rintro e w46 ⟨rfl, hb⟩; refine ⟨_, rfl, ?_⟩; have n0_ := Aside0.mk (blk_below (g := gb101) (o := .cells #[.string (⟨#[]⟩ : ByteArray), .int .i64 0, .int .i64 0, .int .i64 0, .string (⟨#[]⟩ : ByteArray)] 53 (0, 0)) (by (with_reducible repeat (first | refine blk_drewN ?_ _ | refine blk_drew ?_ | refine blk_alloc ?_ _)); exact BK101.out) hb); have n1_ := Aside0.mk (below_step (by repeat (first | (with_reducible first | exact HB.out | apply below_alloc | apply pw_below_drewN | apply below_drew1 | refine below_set ?_ GE101.out) | exact HB.out)) hb); clear BK101; clear HB; have BK101 := n0_; have HB := n1_; clear n0_ n1_; (try clear hb); (try clear hb2); (try clear hk); (try clear hi); obtain ⟨i047, hi047, _, hsz47, _⟩ := info_parts info5; obtain ⟨A47, hcut47, hA47, hC47⟩ := print_mid_of (P := Tryd.prog) (Value.int .u8) 0 22 5 .i64 .i64 Tryd.underlying22 hi047 hsz47 A0 c0 l0 t103 (wrap64 (t103 + 10)) (of_decide_eq_true (by first | (with_reducible assumption) | assumption)) (by first | omega | exact of_decide_eq_true (by first | (with_reducible assumption) | assumption)) (of_decide_eq_true (by first | (with_reducible assumption) | assumption)) HC0.out; have HR105 := Aside0.mk (Kd.C_of_reads (h1 := fun _ => rfl) (hA47 _ (Kd.reads_of_C HR0.out))); have HC105 := Aside0.mk hC47; clear hA47 hC47 hi047 hsz47; have hcv48 := Kd.C_string (P := Tryd.prog) (A := A47) (c := (c0 - t103.toNat)) Tryd.underlying22 Tryd.underlying5 Tryd.underlying9 (Kd.C_below HR105.out HB.out); have hcw48 := hcv48; (try simp only [List.length_drop, List.length_take] at hcw48); (try rw [Nat.min_eq_left (Int.toNat_le.2 (of_decide_eq_true (by first | (with_reducible assumption) | assumption)))] at hcw48)) | ((with_reducible refine gate_callee (f := 27) rfl ?_); refine goesL_ (some 40) rfl rfl Tryd.func27 (by kernel_rfl) rfl #[.string ((strOfNums ((l0.take ((wrap64 (t103 + 10)) : Int).toNat).drop (t103 : Int).toNat)).extract 8 (strOfNums ((l0.take ((wrap64 (t103 + 10)) : Int).toNat).drop (t103 : Int).toNat)).size)] rfl (by (try simp only [List.map_toArray, List.map_cons, List.map_nil]); first | done | rfl | (simp only [List.length_drop, List.length_take]; rfl)) ?_; (with_reducible refine (spec_l02Num.calls k ((strOfNums ((l0.take ((wrap64 (t103 + 10)) : Int).toNat).drop (t103 : Int).toNat)).extract 8 (strOfNums ((l0.take ((wrap64 (t103 + 10)) : Int).toNat).drop (t103 : Int).toNat)).size) t106 _ A13.out).mono ?_); rintro e w' ⟨rfl, ⟨nd, rfl⟩⟩; refine ⟨_, rfl, ?_⟩; (try (rw [drewN_self w46]; generalize hq_ : World.drewN w46 _ = w46; have n0_ : Aside0 (w46.heap[gb101]? = some (.cells #[.string (⟨#[]⟩ : ByteArray), .int .i64 0, .int .i64 0, .int .i64 0, .string (⟨#[]⟩ : ByteArray)] 53 (0, 0))) := ⟨by rw [← hq_]; exact (by (with_reducible repeat (first | refine blk_drewN ?_ _ | refine blk_drew ?_ | refine blk_alloc ?_ _)); exact BK101.out)⟩; have n1_ : Aside0 (Below w.heap.size w w46) := ⟨by rw [← hq_]; exact (by repeat (first | (with_reducible first | exact HB.out | apply below_alloc | apply pw_below_drewN | apply below_drew1 | refine below_set ?_ GE101.out) | exact HB.out))⟩; clear BK101 HB hq_; have BK101 := n0_; have HB := n1_; clear n0_ n1_))) | ((with_reducible refine gate_callee (f := 27) rfl ?_); refine goesL_ (some 51) rfl rfl Tryd.func27 (by kernel_rfl) rfl #[.string ((strOfNums ((l0.take ((wrap64 (t103 + 10)) : Int).toNat).drop (t103 : Int).toNat)).extract 0 2)] rfl (by (try simp only [List.map_toArray, List.map_cons, List.map_nil]); first | done | rfl | (simp only [List.length_drop, List.length_take]; rfl)) ?_; (with_reducible refine (spec_l02Num.calls k ((strOfNums ((l0.take ((wrap64 (t103 + 10)) : Int).toNat).drop (t103 : Int).toNat)).extract 0 2) t107 _ A22.out).mono ?_); rintro e w' ⟨rfl, ⟨nd, rfl⟩⟩; refine ⟨_, rfl, ?_⟩; (try (rw [drewN_self w46]; generalize hq_ : World.drewN w46 _ = w46; have n0_ : Aside0 (w46.heap[gb101]? = some (.cells #[.string (⟨#[]⟩ : ByteArray), .int .i64 0, .int .i64 0, .int .i64 0, .string (⟨#[]⟩ : ByteArray)] 53 (0, 0))) := ⟨by rw [← hq_]; exact (by (with_reducible repeat (first | refine blk_drewN ?_ _ | refine blk_drew ?_ | refine blk_alloc ?_ _)); exact BK101.out)⟩; have n1_ : Aside0 (Below w.heap.size w w46) := ⟨by rw [← hq_]; exact (by repeat (first | (with_reducible first | exact HB.out | apply below_alloc | apply pw_below_drewN | apply below_drew1 | refine below_set ?_ GE101.out) | exact HB.out))⟩; clear BK101 HB hq_; have BK101 := n0_; have HB := n1_; clear n0_ n1_))) | ((with_reducible refine gate_callee (f := 39) rfl ?_); refine goesL_ (some 55) rfl rfl Tryd.func39 (by kernel_rfl) rfl #[.slice A0 l0.length c0, .int .i64 t107, .int .i64 (wrap64 (t103 + 10)), .int .i64 (wrap64 ((wrap64 (t103 + 10)) + t106))] rfl (by (try simp only [List.map_toArray, List.map_cons, List.map_nil]); first | done | rfl | (simp only [List.length_drop, List.length_take]; rfl)) ?_; (with_reducible refine (spec_l04Data.calls k _ _ l0 t107 (wrap64 (t103 + 10)) (wrap64 ((wrap64 (t103 + 10)) + t106)) t108 t109 _ ?side1 ?side2 A23.out).mono ?_); (case side1 => repeat (first | exact (Kd.C_below HR0.out HB.out) | (with_reducible refine Kd.C_alloc ?_ _) | (with_reducible refine Kd.C_drewN ?_ _) | (with_reducible refine Kd.C_drew ?_))); (case side2 => exact HC0.out); rintro e w49 ⟨rfl, hb⟩; refine ⟨_, rfl, ?_⟩; have n0_ := Aside0.mk (blk_below (g := gb101) (o := .cells #[.string (⟨#[]⟩ : ByteArray), .int .i64 0, .int .i64 0, .int .i64 0, .string (⟨#[]⟩ : ByteArray)] 53 (0, 0)) (by (with_reducible repeat (first | refine blk_drewN ?_ _ | refine blk_drew ?_ | refine blk_alloc ?_ _)); exact BK101.out) hb); have n1_ := Aside0.mk (below_step (by repeat (first | (with_reducible first | exact HB.out | apply below_alloc | apply pw_below_drewN | apply below_drew1 | refine below_set ?_ GE101.out) | exact HB.out)) hb); clear BK101; clear HB; have BK101 := n0_; have HB := n1_; clear n0_ n1_; (try clear hb); (try clear hb2); (try clear hk); (try clear hi); have hcz50_0 : w49.cell? ⟨gb101, 0, none⟩ = some (.string (⟨#[]⟩ : ByteArray)) := (blk_cell BK101.out 0).trans rfl; have hcz50_1 : w49.cell? ⟨gb101, 1, none⟩ = some (.int .i64 0) := (blk_cell BK101.out 1).trans rfl; have hcz50_2 : w49.cell? ⟨gb101, 2, none⟩ = some (.int .i64 0) := (blk_cell BK101.out 2).trans rfl; have hcz50_3 : w49.cell? ⟨gb101, 3, none⟩ = some (.int .i64 0) := (blk_cell BK101.out 3).trans rfl; have hcz50_4 : w49.cell? ⟨gb101, 4, none⟩ = some (.string (⟨#[]⟩ : ByteArray)) := (blk_cell BK101.out 4).trans rfl; have hfz50_0 := blk_frozen BK101.out 0; have hfz50_1 := blk_frozen BK101.out 1; have hfz50_2 := blk_frozen BK101.out 2; have hfz50_3 := blk_frozen BK101.out 3; have hfz50_4 := blk_frozen BK101.out 4))
                      refine bodyPost_ret (results_ctt rfl _ _ gb101 53 #[.string (⟨#[]⟩ : ByteArray), .int .i64 0, .int .i64 0, .int .i64 0, .string (⟨#[]⟩ : ByteArray)] (0, 0) _ rfl (by (with_reducible repeat (first | refine blk_drewN ?_ _ | refine blk_drew ?_ | refine blk_alloc ?_ _)); refine blk_put (cs := #[.string (⟨#[]⟩ : ByteArray), .int .i64 0, .int .i64 0, .int .i64 0, .string (⟨#[]⟩ : ByteArray)]) ?_ 4 _ rfl; (with_reducible repeat (first | refine blk_drewN ?_ _ | refine blk_drew ?_ | refine blk_alloc ?_ _)); refine blk_put (cs := #[.string (⟨#[]⟩ : ByteArray), .int .i64 0, .int .i64 0, .int .i64 0, .string (⟨#[]⟩ : ByteArray)]) ?_ 3 _ rfl; (with_reducible repeat (first | refine blk_drewN ?_ _ | refine blk_drew ?_ | refine blk_alloc ?_ _)); refine blk_put (cs := #[.string (⟨#[]⟩ : ByteArray), .int .i64 0, .int .i64 0, .int .i64 0, .string (⟨#[]⟩ : ByteArray)]) ?_ 2 _ rfl; (with_reducible repeat (first | refine blk_drewN ?_ _ | refine blk_drew ?_ | refine blk_alloc ?_ _)); refine blk_put (cs := #[.string (⟨#[]⟩ : ByteArray), .int .i64 0, .int .i64 0, .int .i64 0, .string (⟨#[]⟩ : ByteArray)]) ?_ 1 _ rfl; (with_reducible repeat (first | refine blk_drewN ?_ _ | refine blk_drew ?_ | refine blk_alloc ?_ _)); refine blk_put (cs := #[.string (⟨#[]⟩ : ByteArray), .int .i64 0, .int .i64 0, .int .i64 0, .string (⟨#[]⟩ : ByteArray)]) ?_ 0 _ rfl; (with_reducible repeat (first | refine blk_drewN ?_ _ | refine blk_drew ?_ | refine blk_alloc ?_ _)); exact BK101.out) Tryd.underlying53 rfl (by kernel_rfl)) rfl ?_
                      exact ⟨by first | rfl | (simp [errW_none, errW_some] <;> rfl) | (simp [*, errW_none, errW_some] <;> rfl), by repeat (first | (with_reducible first | exact HB.out | apply below_alloc | apply pw_below_drewN | apply below_drew1 | refine below_set ?_ GE101.out) | exact HB.out)⟩
                  · rw [if_neg c21] at H
                    exact absurd H (by simp)
                · rw [if_neg c20] at H
                  exact absurd H (by simp)
            · rw [if_neg c12] at H
              exact absurd H (by simp)
          · rw [if_neg c11] at H
            exact absurd H (by simp)
        · rw [if_neg c10] at H
          exact absurd H (by simp)
      · rw [if_neg c9] at H
        exact absurd H (by simp)
  · rw [if_neg c4] at H
    have c4b0 : (t104 == 0) = false := beq_eq_false_iff_ne.mpr c4
    have c4b1 : (t104 != 0) = true := bne_iff_ne.mpr c4
    simp only [Option.some.injEq, Prod.mk.injEq] at H
    obtain ⟨rfl, rfl, rfl, rfl, rfl, rfl, rfl⟩ := H
    go_enter Tryd.func28, Tryd.ntmps28
    go_wp2_with (first | ((with_reducible refine gate_dst (N := 4) rfl ?_); refine box_event ?hg (N := 4) ?hd (cs := #[.string (⟨#[]⟩ : ByteArray), .int .i64 0, .int .i64 0, .int .i64 0, .string (⟨#[]⟩ : ByteArray)]) (t := 53) ?hr ?_; (case hd => rfl); (case hg => rfl); (case hr => first | (go_simp; done) | (go_simp; rfl)); intro gb101 hg w51 hbox hb; have n0_ := Aside0.mk (below_step (by repeat (first | (with_reducible first | exact HB.out | apply below_alloc | apply pw_below_drewN | apply below_drew1) | exact HB.out)) hb); have n1_ := Aside0.mk (hbox); have n2_ := Aside0.mk ((by rw [hg]; exact (below_size (by repeat (first | (with_reducible first | exact HB.out | apply below_alloc | apply pw_below_drewN | apply below_drew1) | exact HB.out))) : w.heap.size ≤ gb101)); have n3_ := Aside0.mk ((by rw [hg]; exact (below_size (by repeat (first | (with_reducible first | exact HB.out | apply below_alloc | apply pw_below_drewN | apply below_drew1) | exact HB.out))) : w.heap.size ≤ gb101)); clear HB; have HB := n0_; have BK101 := n1_; have GW101 := n2_; have GE101 := n3_; clear n0_ n1_ n2_ n3_; clear hb hbox hg) | ((with_reducible refine gate_callee (f := 26) rfl ?_); refine goesL_ (some 16) rfl rfl Tryd.func26 (by kernel_rfl) rfl #[.slice A0 l0.length c0, .int .i64 a1] rfl (by (try simp only [List.map_toArray, List.map_cons, List.map_nil]); first | done | rfl | (simp only [List.length_drop, List.length_take]; rfl)) ?_; (with_reducible refine (spec_DecodeName.calls k _ _ l0 a1 t102 t103 t104 _ ?side1 ?side2 A3.out).mono ?_); (case side1 => repeat (first | exact (Kd.C_below HR0.out HB.out) | (with_reducible refine Kd.C_alloc ?_ _) | (with_reducible refine Kd.C_drewN ?_ _) | (with_reducible refine Kd.C_drew ?_))); (case side2 => exact HC0.out); rintro e w52 ⟨rfl, hb⟩; refine ⟨_, rfl, ?_⟩; have n0_ := Aside0.mk (blk_below (g := gb101) (o := .cells #[.string (⟨#[]⟩ : ByteArray), .int .i64 0, .int .i64 0, .int .i64 0, .string (⟨#[]⟩ : ByteArray)] 53 (0, 0)) (by (with_reducible repeat (first | refine blk_drewN ?_ _ | refine blk_drew ?_ | refine blk_alloc ?_ _)); exact BK101.out) hb); have n1_ := Aside0.mk (below_step (by repeat (first | (with_reducible first | exact HB.out | apply below_alloc | apply pw_below_drewN | apply below_drew1 | refine below_set ?_ GE101.out) | exact HB.out)) hb); clear BK101; clear HB; have BK101 := n0_; have HB := n1_; clear n0_ n1_; (try clear hb); (try clear hb2); (try clear hk); (try clear hi); have hcz53_0 : w52.cell? ⟨gb101, 0, none⟩ = some (.string (⟨#[]⟩ : ByteArray)) := (blk_cell BK101.out 0).trans rfl; have hcz53_1 : w52.cell? ⟨gb101, 1, none⟩ = some (.int .i64 0) := (blk_cell BK101.out 1).trans rfl; have hcz53_2 : w52.cell? ⟨gb101, 2, none⟩ = some (.int .i64 0) := (blk_cell BK101.out 2).trans rfl; have hcz53_3 : w52.cell? ⟨gb101, 3, none⟩ = some (.int .i64 0) := (blk_cell BK101.out 3).trans rfl; have hcz53_4 : w52.cell? ⟨gb101, 4, none⟩ = some (.string (⟨#[]⟩ : ByteArray)) := (blk_cell BK101.out 4).trans rfl; have hfz53_0 := blk_frozen BK101.out 0; have hfz53_1 := blk_frozen BK101.out 1; have hfz53_2 := blk_frozen BK101.out 2; have hfz53_3 := blk_frozen BK101.out 3; have hfz53_4 := blk_frozen BK101.out 4))
    refine bodyPost_ret (results_ctt rfl _ _ gb101 53 #[.string (⟨#[]⟩ : ByteArray), .int .i64 0, .int .i64 0, .int .i64 0, .string (⟨#[]⟩ : ByteArray)] (0, 0) _ rfl (by (with_reducible repeat (first | refine blk_drewN ?_ _ | refine blk_drew ?_ | refine blk_alloc ?_ _)); refine blk_put (cs := #[.string (⟨#[]⟩ : ByteArray), .int .i64 0, .int .i64 0, .int .i64 0, .string (⟨#[]⟩ : ByteArray)]) ?_ 4 _ rfl; (with_reducible repeat (first | refine blk_drewN ?_ _ | refine blk_drew ?_ | refine blk_alloc ?_ _)); refine blk_put (cs := #[.string (⟨#[]⟩ : ByteArray), .int .i64 0, .int .i64 0, .int .i64 0, .string (⟨#[]⟩ : ByteArray)]) ?_ 3 _ rfl; (with_reducible repeat (first | refine blk_drewN ?_ _ | refine blk_drew ?_ | refine blk_alloc ?_ _)); refine blk_put (cs := #[.string (⟨#[]⟩ : ByteArray), .int .i64 0, .int .i64 0, .int .i64 0, .string (⟨#[]⟩ : ByteArray)]) ?_ 2 _ rfl; (with_reducible repeat (first | refine blk_drewN ?_ _ | refine blk_drew ?_ | refine blk_alloc ?_ _)); refine blk_put (cs := #[.string (⟨#[]⟩ : ByteArray), .int .i64 0, .int .i64 0, .int .i64 0, .string (⟨#[]⟩ : ByteArray)]) ?_ 1 _ rfl; (with_reducible repeat (first | refine blk_drewN ?_ _ | refine blk_drew ?_ | refine blk_alloc ?_ _)); refine blk_put (cs := #[.string (⟨#[]⟩ : ByteArray), .int .i64 0, .int .i64 0, .int .i64 0, .string (⟨#[]⟩ : ByteArray)]) ?_ 0 _ rfl; (with_reducible repeat (first | refine blk_drewN ?_ _ | refine blk_drew ?_ | refine blk_alloc ?_ _)); exact BK101.out) Tryd.underlying53 rfl (by kernel_rfl)) rfl ?_
    exact ⟨by first | rfl | (simp [errW_none, errW_some] <;> rfl) | (simp [*, errW_none, errW_some] <;> rfl), by repeat (first | (with_reducible first | exact HB.out | apply below_alloc | apply pw_below_drewN | apply below_drew1 | refine below_set ?_ GE101.out) | exact HB.out)⟩

end Go.Proofs.YtcamchdenjpmhaaDoor.F
namespace Go.Proofs.YtcamchdenjpmhaaDoor.F
open Go Go.Shelf Go.RowKit Go.Proofs.YtcamchdenjpmhaaDoorW.PrintWords Go.Proofs.YtcamchdenjpmhaaDoorW.PrintLast Go.Proofs.YtcamchdenjpmhaaDoorW.PrintMore
attribute [local go_sem] max2_int min2_int max_two min_two max_three min_three max_four min_four   -- for this text's walks alone
set_option linter.unusedVariables false
set_option linter.unusedSimpArgs false

/-! ### stands 28 -/
-- stands: a message's block and its four rows
def msgC (h : S24) (vq va vu ve : Value) : Array Value := #[.int .i64 h.f0, .bool h.f1, .int .i64 h.f2, .bool h.f3, .bool h.f4, .bool h.f5, .bool h.f6, .bool h.f7, .bool h.f8, .bool h.f9, .int .i64 h.f10, vq, va, vu, ve]
def headC (h : S24) : Array Value := #[.int .i64 h.f0, .bool h.f1, .int .i64 h.f2, .bool h.f3, .bool h.f4, .bool h.f5, .bool h.f6, .bool h.f7, .bool h.f8, .bool h.f9, .int .i64 h.f10]
def cntC (n0 n1 n2 n3 : Int) : Array Value := #[.int .i64 n0, .int .i64 n1, .int .i64 n2, .int .i64 n3]
def nilV : Value := .slice none 0 0
structure MsgI (v wr : World) (okq : Nat → Prop) (g2 gc gm : Nat) (Z C : Array Value) (h : S24) (vq va vu ve : Value) (q : List S47) (a u e : List S53) : Prop where
  res : wr.heap[g2]? = some (.cells Z 28 (0, 0))
  cnt : wr.heap[gc]? = some (.cells C 39 (0, 0))
  msg : wr.heap[gm]? = some (.cells (msgC h vq va vu ve) 28 (0, 0))
  rq : Kd.R k47 47 wr v.heap.size okq vq q
  ra : Kd.R k53 53 wr v.heap.size (fun k => some k ≠ vu.ownBlock ∧ some k ≠ ve.ownBlock) va a
  ru : Kd.R k53 53 wr v.heap.size (fun k => some k ≠ va.ownBlock ∧ some k ≠ ve.ownBlock) vu u
  re : Kd.R k53 53 wr v.heap.size (fun k => some k ≠ va.ownBlock ∧ some k ≠ vu.ownBlock) ve e
  bel : Below v.heap.size v wr
  h2 : v.heap.size ≤ g2
  hc : v.heap.size ≤ gc
  hm : v.heap.size ≤ gm
  ne : g2 ≠ gm
section
variable {v wr W : World} {okq okq' : Nat → Prop} {g2 gc gm g : Nat} {Z C : Array Value} {h : S24} {vq va vu ve : Value} {q : List S47} {a u e : List S53}
theorem MsgI.below (I : MsgI v wr okq g2 gc gm Z C h vq va vu ve q a u e) (hb : Below wr.heap.size wr W) : MsgI v W okq g2 gc gm Z C h vq va vu ve q a u e :=
  ⟨blk_below I.res hb, blk_below I.cnt hb, blk_below I.msg hb, Kd.R_below I.rq hb, Kd.R_below I.ra hb, Kd.R_below I.ru hb, Kd.R_below I.re hb, below_then I.bel I.bel.size hb, I.h2, I.hc, I.hm, I.ne⟩
theorem MsgI.drew (I : MsgI v wr okq g2 gc gm Z C h vq va vu ve q a u e) : MsgI v wr.drew okq g2 gc gm Z C h vq va vu ve q a u e := I.below (below_drew (Below.refl _ _))
/-- A block of another type has been written. -/
theorem MsgI.other (I : MsgI v wr okq g2 gc gm Z C h vq va vu ve q a u e) {t : TypeId} {cs : Array Value} (hx : wr.heap[g]? = some (.cells cs t (0, 0))) (t1 : t ≠ 28) (t2 : t ≠ 39) (t3 : t ≠ 47) (t4 : t ≠ 53) (hg : wr.grownBy W (some g)) (hb : Below v.heap.size v W) : MsgI v W okq g2 gc gm Z C h vq va vu ve q a u e :=
  ⟨blk_grown I.res hg (fun e => blk_ne hx I.res t1 (by injection e with e; exact e.symm)), blk_grown I.cnt hg (fun e => blk_ne hx I.cnt t2 (by injection e with e; exact e.symm)), blk_grown I.msg hg (fun e => blk_ne hx I.msg t1 (by injection e with e; exact e.symm)),
   Kd.R_mono (Kd.R_grown (Kd.R_types I.rq hx (fun z hz => by simp [Kd.E, k47, Kd.iso, Kd.pair, Kd.string, Kd.int, Kd.scalar] at hz; subst hz; exact fun e => t3 e.symm)) hg (fun k hk e => hk.2 (by injection e))) (fun _ hk => hk.1),
   Kd.R_mono (Kd.R_grown (Kd.R_types I.ra hx (fun z hz => by simp [Kd.E, k53, Kd.iso, Kd.pair, Kd.string, Kd.int, Kd.scalar] at hz; subst hz; exact fun e => t4 e.symm)) hg (fun k hk e => hk.2 (by injection e))) (fun _ hk => hk.1),
   Kd.R_mono (Kd.R_grown (Kd.R_types I.ru hx (fun z hz => by simp [Kd.E, k53, Kd.iso, Kd.pair, Kd.string, Kd.int, Kd.scalar] at hz; subst hz; exact fun e => t4 e.symm)) hg (fun k hk e => hk.2 (by injection e))) (fun _ hk => hk.1),
   Kd.R_mono (Kd.R_grown (Kd.R_types I.re hx (fun z hz => by simp [Kd.E, k53, Kd.iso, Kd.pair, Kd.string, Kd.int, Kd.scalar] at hz; subst hz; exact fun e => t4 e.symm)) hg (fun k hk e => hk.2 (by injection e))) (fun _ hk => hk.1),
   hb, I.h2, I.hc, I.hm, I.ne⟩
theorem MsgI.appQ (I : MsgI v wr okq g2 gc gm Z C h vq va vu ve q a u e) {w1 : World} {v1 : Value} {x : S47} (ho : Kd.R k47 47 w1 v.heap.size okq v1 (q ++ [x])) (hb : Below v.heap.size v w1) (hg : wr.grownBy w1 vq.ownBlock) (hat : v1.ownBlock = vq.ownBlock ∨ ∃ b, v1.ownBlock = some b ∧ wr.heap.size ≤ b) :
    MsgI v (w1.setCell ⟨gm, 11, none⟩ v1) okq g2 gc gm Z C h v1 va vu ve (q ++ [x]) a u e := by
  have k1 := blk_grown I.res hg (Kd.R_ne I.rq I.res (by decide))
  have k2 := blk_grown I.cnt hg (Kd.R_ne I.rq I.cnt (by decide))
  have k3 := blk_grown I.msg hg (Kd.R_ne I.rq I.msg (by decide))
  have n1 : gc ≠ gm := blk_ne I.cnt I.msg (by decide)
  have y_rq := Kd.R_set ho k3 (fun z hz => by simp [Kd.E, k47, Kd.iso, Kd.pair, Kd.string, Kd.int, Kd.scalar] at hz; subst hz; decide) 11 v1
  have x_ra := Kd.R_over I.ra I.rq (fun z hz => by simp [Kd.E, k53, Kd.iso, Kd.pair, Kd.string, Kd.int, Kd.scalar] at hz; subst hz; decide) hg
  have y_ra := Kd.R_set x_ra k3 (fun z hz => by simp [Kd.E, k53, Kd.iso, Kd.pair, Kd.string, Kd.int, Kd.scalar] at hz; subst hz; decide) 11 v1
  have x_ru := Kd.R_over I.ru I.rq (fun z hz => by simp [Kd.E, k53, Kd.iso, Kd.pair, Kd.string, Kd.int, Kd.scalar] at hz; subst hz; decide) hg
  have y_ru := Kd.R_set x_ru k3 (fun z hz => by simp [Kd.E, k53, Kd.iso, Kd.pair, Kd.string, Kd.int, Kd.scalar] at hz; subst hz; decide) 11 v1
  have x_re := Kd.R_over I.re I.rq (fun z hz => by simp [Kd.E, k53, Kd.iso, Kd.pair, Kd.string, Kd.int, Kd.scalar] at hz; subst hz; decide) hg
  have y_re := Kd.R_set x_re k3 (fun z hz => by simp [Kd.E, k53, Kd.iso, Kd.pair, Kd.string, Kd.int, Kd.scalar] at hz; subst hz; decide) 11 v1
  exact ⟨blk_far k1 (show g2 ≠ gm from I.ne) v1, blk_far k2 (show gc ≠ gm from n1) v1, blk_put k3 11 v1 (cs' := msgC h v1 va vu ve) rfl, y_rq, y_ra, y_ru, y_re, hb.setCell I.hm v1, I.h2, I.hc, I.hm, I.ne⟩
theorem MsgI.appA (I : MsgI v wr okq g2 gc gm Z C h vq va vu ve q a u e) {w1 : World} {v1 : Value} {x : S53} (ho : Kd.R k53 53 w1 v.heap.size (fun k => some k ≠ vu.ownBlock ∧ some k ≠ ve.ownBlock) v1 (a ++ [x])) (hb : Below v.heap.size v w1) (hg : wr.grownBy w1 va.ownBlock) (hat : v1.ownBlock = va.ownBlock ∨ ∃ b, v1.ownBlock = some b ∧ wr.heap.size ≤ b) :
    MsgI v (w1.setCell ⟨gm, 12, none⟩ v1) okq g2 gc gm Z C h vq v1 vu ve q (a ++ [x]) u e := by
  have k1 := blk_grown I.res hg (Kd.R_ne I.ra I.res (by decide))
  have k2 := blk_grown I.cnt hg (Kd.R_ne I.ra I.cnt (by decide))
  have k3 := blk_grown I.msg hg (Kd.R_ne I.ra I.msg (by decide))
  have n1 : gc ≠ gm := blk_ne I.cnt I.msg (by decide)
  have x_rq := Kd.R_over I.rq I.ra (fun z hz => by simp [Kd.E, k47, Kd.iso, Kd.pair, Kd.string, Kd.int, Kd.scalar] at hz; subst hz; decide) hg
  have y_rq := Kd.R_set x_rq k3 (fun z hz => by simp [Kd.E, k47, Kd.iso, Kd.pair, Kd.string, Kd.int, Kd.scalar] at hz; subst hz; decide) 12 v1
  have y_ra := Kd.R_set ho k3 (fun z hz => by simp [Kd.E, k53, Kd.iso, Kd.pair, Kd.string, Kd.int, Kd.scalar] at hz; subst hz; decide) 12 v1
  have x_ru : Kd.R k53 53 w1 v.heap.size (fun k => some k ≠ v1.ownBlock ∧ some k ≠ ve.ownBlock) vu u := Kd.R_mono (Kd.R_after (ok := (fun k => some k ≠ ve.ownBlock)) (Kd.R_mono I.ru (fun k hk => ⟨hk.2, hk.1⟩)) hg hat) (fun k hk => ⟨hk.2, hk.1⟩)
  have y_ru := Kd.R_set x_ru k3 (fun z hz => by simp [Kd.E, k53, Kd.iso, Kd.pair, Kd.string, Kd.int, Kd.scalar] at hz; subst hz; decide) 12 v1
  have x_re : Kd.R k53 53 w1 v.heap.size (fun k => some k ≠ v1.ownBlock ∧ some k ≠ vu.ownBlock) ve e := Kd.R_mono (Kd.R_after (ok := (fun k => some k ≠ vu.ownBlock)) (Kd.R_mono I.re (fun k hk => ⟨hk.2, hk.1⟩)) hg hat) (fun k hk => ⟨hk.2, hk.1⟩)
  have y_re := Kd.R_set x_re k3 (fun z hz => by simp [Kd.E, k53, Kd.iso, Kd.pair, Kd.string, Kd.int, Kd.scalar] at hz; subst hz; decide) 12 v1
  exact ⟨blk_far k1 (show g2 ≠ gm from I.ne) v1, blk_far k2 (show gc ≠ gm from n1) v1, blk_put k3 12 v1 (cs' := msgC h vq v1 vu ve) rfl, y_rq, y_ra, y_ru, y_re, hb.setCell I.hm v1, I.h2, I.hc, I.hm, I.ne⟩
theorem MsgI.appU (I : MsgI v wr okq g2 gc gm Z C h vq va vu ve q a u e) {w1 : World} {v1 : Value} {x : S53} (ho : Kd.R k53 53 w1 v.heap.size (fun k => some k ≠ va.ownBlock ∧ some k ≠ ve.ownBlock) v1 (u ++ [x])) (hb : Below v.heap.size v w1) (hg : wr.grownBy w1 vu.ownBlock) (hat : v1.ownBlock = vu.ownBlock ∨ ∃ b, v1.ownBlock = some b ∧ wr.heap.size ≤ b) :
    MsgI v (w1.setCell ⟨gm, 13, none⟩ v1) okq g2 gc gm Z C h vq va v1 ve q a (u ++ [x]) e := by
  have k1 := blk_grown I.res hg (Kd.R_ne I.ru I.res (by decide))
  have k2 := blk_grown I.cnt hg (Kd.R_ne I.ru I.cnt (by decide))
  have k3 := blk_grown I.msg hg (Kd.R_ne I.ru I.msg (by decide))
  have n1 : gc ≠ gm := blk_ne I.cnt I.msg (by decide)
  have x_rq := Kd.R_over I.rq I.ru (fun z hz => by simp [Kd.E, k47, Kd.iso, Kd.pair, Kd.string, Kd.int, Kd.scalar] at hz; subst hz; decide) hg
  have y_rq := Kd.R_set x_rq k3 (fun z hz => by simp [Kd.E, k47, Kd.iso, Kd.pair, Kd.string, Kd.int, Kd.scalar] at hz; subst hz; decide) 13 v1
  have x_ra : Kd.R k53 53 w1 v.heap.size (fun k => some k ≠ v1.ownBlock ∧ some k ≠ ve.ownBlock) va a := Kd.R_mono (Kd.R_after (ok := (fun k => some k ≠ ve.ownBlock)) (Kd.R_mono I.ra (fun k hk => ⟨hk.2, hk.1⟩)) hg hat) (fun k hk => ⟨hk.2, hk.1⟩)
  have y_ra := Kd.R_set x_ra k3 (fun z hz => by simp [Kd.E, k53, Kd.iso, Kd.pair, Kd.string, Kd.int, Kd.scalar] at hz; subst hz; decide) 13 v1
  have y_ru := Kd.R_set ho k3 (fun z hz => by simp [Kd.E, k53, Kd.iso, Kd.pair, Kd.string, Kd.int, Kd.scalar] at hz; subst hz; decide) 13 v1
  have x_re : Kd.R k53 53 w1 v.heap.size (fun k => some k ≠ va.ownBlock ∧ some k ≠ v1.ownBlock) ve e := Kd.R_mono (Kd.R_after (ok := (fun k => some k ≠ va.ownBlock)) (Kd.R_mono I.re (fun k hk => hk)) hg hat) (fun k hk => hk)
  have y_re := Kd.R_set x_re k3 (fun z hz => by simp [Kd.E, k53, Kd.iso, Kd.pair, Kd.string, Kd.int, Kd.scalar] at hz; subst hz; decide) 13 v1
  exact ⟨blk_far k1 (show g2 ≠ gm from I.ne) v1, blk_far k2 (show gc ≠ gm from n1) v1, blk_put k3 13 v1 (cs' := msgC h vq va v1 ve) rfl, y_rq, y_ra, y_ru, y_re, hb.setCell I.hm v1, I.h2, I.hc, I.hm, I.ne⟩
theorem MsgI.appE (I : MsgI v wr okq g2 gc gm Z C h vq va vu ve q a u e) {w1 : World} {v1 : Value} {x : S53} (ho : Kd.R k53 53 w1 v.heap.size (fun k => some k ≠ va.ownBlock ∧ some k ≠ vu.ownBlock) v1 (e ++ [x])) (hb : Below v.heap.size v w1) (hg : wr.grownBy w1 ve.ownBlock) (hat : v1.ownBlock = ve.ownBlock ∨ ∃ b, v1.ownBlock = some b ∧ wr.heap.size ≤ b) :
    MsgI v (w1.setCell ⟨gm, 14, none⟩ v1) okq g2 gc gm Z C h vq va vu v1 q a u (e ++ [x]) := by
  have k1 := blk_grown I.res hg (Kd.R_ne I.re I.res (by decide))
  have k2 := blk_grown I.cnt hg (Kd.R_ne I.re I.cnt (by decide))
  have k3 := blk_grown I.msg hg (Kd.R_ne I.re I.msg (by decide))
  have n1 : gc ≠ gm := blk_ne I.cnt I.msg (by decide)
  have x_rq := Kd.R_over I.rq I.re (fun z hz => by simp [Kd.E, k47, Kd.iso, Kd.pair, Kd.string, Kd.int, Kd.scalar] at hz; subst hz; decide) hg
  have y_rq := Kd.R_set x_rq k3 (fun z hz => by simp [Kd.E, k47, Kd.iso, Kd.pair, Kd.string, Kd.int, Kd.scalar] at hz; subst hz; decide) 14 v1
  have x_ra : Kd.R k53 53 w1 v.heap.size (fun k => some k ≠ vu.ownBlock ∧ some k ≠ v1.ownBlock) va a := Kd.R_mono (Kd.R_after (ok := (fun k => some k ≠ vu.ownBlock)) (Kd.R_mono I.ra (fun k hk => hk)) hg hat) (fun k hk => hk)
  have y_ra := Kd.R_set x_ra k3 (fun z hz => by simp [Kd.E, k53, Kd.iso, Kd.pair, Kd.string, Kd.int, Kd.scalar] at hz; subst hz; decide) 14 v1
  have x_ru : Kd.R k53 53 w1 v.heap.size (fun k => some k ≠ va.ownBlock ∧ some k ≠ v1.ownBlock) vu u := Kd.R_mono (Kd.R_after (ok := (fun k => some k ≠ va.ownBlock)) (Kd.R_mono I.ru (fun k hk => hk)) hg hat) (fun k hk => hk)
  have y_ru := Kd.R_set x_ru k3 (fun z hz => by simp [Kd.E, k53, Kd.iso, Kd.pair, Kd.string, Kd.int, Kd.scalar] at hz; subst hz; decide) 14 v1
  have y_re := Kd.R_set ho k3 (fun z hz => by simp [Kd.E, k53, Kd.iso, Kd.pair, Kd.string, Kd.int, Kd.scalar] at hz; subst hz; decide) 14 v1
  exact ⟨blk_far k1 (show g2 ≠ gm from I.ne) v1, blk_far k2 (show gc ≠ gm from n1) v1, blk_put k3 14 v1 (cs' := msgC h vq va vu v1) rfl, y_rq, y_ra, y_ru, y_re, hb.setCell I.hm v1, I.h2, I.hc, I.hm, I.ne⟩
theorem MsgI.okq_ (I : MsgI v wr okq g2 gc gm Z C h vq va vu ve q a u e) (ho : ∀ k, okq k → k < wr.heap.size → okq' k) : MsgI v wr okq' g2 gc gm Z C h vq va vu ve q a u e :=
  ⟨I.res, I.cnt, I.msg, Kd.R_mono (Kd.R_bound I.rq) (fun k hk => ho k hk.1 hk.2.2.1), I.ra, I.ru, I.re, I.bel, I.h2, I.hc, I.hm, I.ne⟩
/-- A block of the questions' type that is none of the row's has been written. -/
theorem MsgI.qbox (I : MsgI v wr okq g2 gc gm Z C h vq va vu ve q a u e) {cs : Array Value} (hx : wr.heap[g]? = some (.cells cs 47 (0, 0))) (ho : ∀ k, okq k → k ≠ g) (hg : v.heap.size ≤ g) (i : Nat) (x : Value) : MsgI v (wr.setCell ⟨g, i, none⟩ x) okq g2 gc gm Z C h vq va vu ve q a u e :=
  ⟨blk_far I.res (show g2 ≠ g from fun e => blk_ne I.res hx (by decide) e) x, blk_far I.cnt (show gc ≠ g from fun e => blk_ne I.cnt hx (by decide) e) x, blk_far I.msg (show gm ≠ g from fun e => blk_ne I.msg hx (by decide) e) x,
   Kd.R_far I.rq ho x, Kd.R_set I.ra hx (fun z hz => by simp [Kd.E, k53, Kd.iso, Kd.pair, Kd.string, Kd.int, Kd.scalar] at hz; subst hz; decide) i x,
   Kd.R_set I.ru hx (fun z hz => by simp [Kd.E, k53, Kd.iso, Kd.pair, Kd.string, Kd.int, Kd.scalar] at hz; subst hz; decide) i x, Kd.R_set I.re hx (fun z hz => by simp [Kd.E, k53, Kd.iso, Kd.pair, Kd.string, Kd.int, Kd.scalar] at hz; subst hz; decide) i x,
   I.bel.setCell hg x, I.h2, I.hc, I.hm, I.ne⟩
/-- The result: the whole message's row is written. -/
theorem MsgI.ret (I : MsgI v wr okq g2 gc gm Z C h vq va vu ve q a u e) {S : Array Value} : (wr.setRow g2 S).heap[g2]? = some (.cells S 28 (0, 0)) ∧ Below v.heap.size v (wr.setRow g2 S) :=
  ⟨setRow_heap _ _ _ _ _ _ I.res, I.bel.os, I.bel.tape, I.bel.output, by rw [setRow_size]; exact I.bel.size, fun k hk => (setRow_other _ _ _ _ (by have := I.h2; omega)).trans (I.bel.block k hk)⟩
theorem MsgI.ret_rows (I : MsgI v wr okq g2 gc gm Z C h vq va vu ve q a u e) (ho : ∀ k, okq k → okq' k) {S : Array Value} : Kd.R k47 47 (wr.setRow g2 S) v.heap.size okq' vq q ∧ Kd.R k53 53 (wr.setRow g2 S) v.heap.size (fun k => some k ≠ vu.ownBlock ∧ some k ≠ ve.ownBlock) va a ∧ Kd.R k53 53 (wr.setRow g2 S) v.heap.size (fun k => some k ≠ va.ownBlock ∧ some k ≠ ve.ownBlock) vu u ∧ Kd.R k53 53 (wr.setRow g2 S) v.heap.size (fun k => some k ≠ va.ownBlock ∧ some k ≠ vu.ownBlock) ve e := by
  have tr := fun z (hz : z ∈ 53 :: k53.E) => (show z ≠ 28 by simp [Kd.E, k53, Kd.iso, Kd.pair, Kd.string, Kd.int, Kd.scalar] at hz; subst hz; decide)
  have tq := fun z (hz : z ∈ 47 :: k47.E) => (show z ≠ 28 by simp [Kd.E, k47, Kd.iso, Kd.pair, Kd.string, Kd.int, Kd.scalar] at hz; subst hz; decide)
  exact ⟨Kd.R_mono (Kd.R_step (Kd.R_types I.rq I.res tq) (fun k hk _ => setRow_other _ _ _ _ hk.2)) (fun k hk => ho k hk.1),
    Kd.R_mono (Kd.R_step (Kd.R_types I.ra I.res tr) (fun k hk _ => setRow_other _ _ _ _ hk.2)) (fun k hk => hk.1),
    Kd.R_mono (Kd.R_step (Kd.R_types I.ru I.res tr) (fun k hk _ => setRow_other _ _ _ _ hk.2)) (fun k hk => hk.1),
    Kd.R_mono (Kd.R_step (Kd.R_types I.re I.res tr) (fun k hk _ => setRow_other _ _ _ _ hk.2)) (fun k hk => hk.1)⟩
end
/-- .. and a decoder's block. -/
structure DMI (v wr : World) (okq : Nat → Prop) (g2 gc gd gm : Nat) (Z C : Array Value) (h : S24) (vq va vu ve : Value) (q : List S47) (a u e : List S53) (D : Array Value) : Prop where
  m : MsgI v wr okq g2 gc gm Z C h vq va vu ve q a u e
  d : wr.heap[gd]? = some (.cells D 44 (0, 0))
  hd : v.heap.size ≤ gd
section
variable {v wr W : World} {okq okq' : Nat → Prop} {g2 gc gd gm g : Nat} {Z C D D' : Array Value} {h : S24} {vq va vu ve : Value} {q : List S47} {a u e : List S53}
theorem DMI.below (I : DMI v wr okq g2 gc gd gm Z C h vq va vu ve q a u e D) (hb : Below wr.heap.size wr W) : DMI v W okq g2 gc gd gm Z C h vq va vu ve q a u e D := ⟨I.m.below hb, blk_below I.d hb, I.hd⟩
theorem DMI.drew (I : DMI v wr okq g2 gc gd gm Z C h vq va vu ve q a u e D) : DMI v wr.drew okq g2 gc gd gm Z C h vq va vu ve q a u e D := I.below (below_drew (Below.refl _ _))
theorem DMI.step (I : DMI v wr okq g2 gc gd gm Z C h vq va vu ve q a u e D) (hd : W.heap[gd]? = some (.cells D' 44 (0, 0))) (hb : Below v.heap.size v W) (hg : wr.grownBy W (some gd)) : DMI v W okq g2 gc gd gm Z C h vq va vu ve q a u e D' :=
  ⟨I.m.other I.d (by decide) (by decide) (by decide) (by decide) hg hb, hd, I.hd⟩
theorem DMI.qbox (I : DMI v wr okq g2 gc gd gm Z C h vq va vu ve q a u e D) {cs : Array Value} (hx : wr.heap[g]? = some (.cells cs 47 (0, 0))) (ho : ∀ k, okq k → k ≠ g) (hg : v.heap.size ≤ g) (i : Nat) (x : Value) : DMI v (wr.setCell ⟨g, i, none⟩ x) okq g2 gc gd gm Z C h vq va vu ve q a u e D :=
  ⟨I.m.qbox hx ho hg i x, blk_far I.d (show gd ≠ g from fun e => blk_ne I.d hx (by decide) e) x, I.hd⟩
theorem DMI.put (I : DMI v wr okq g2 gc gd gm Z C h vq va vu ve q a u e D) {w1 : World} {vo v1 : Value} {f : Nat} {vq' va' vu' ve' : Value} {q' : List S47} {a' u' e' : List S53} {t : TypeId} {T : Type} {kd : Kd T} {ok : Nat → Prop} {xs : List T} (hr : Kd.R kd t wr v.heap.size ok vo xs) (ht : t ≠ 44) (hg : wr.grownBy w1 vo.ownBlock) (hm : MsgI v (w1.setCell ⟨gm, f, none⟩ v1) okq g2 gc gm Z C h vq' va' vu' ve' q' a' u' e') :
    DMI v (w1.setCell ⟨gm, f, none⟩ v1) okq g2 gc gd gm Z C h vq' va' vu' ve' q' a' u' e' D :=
  ⟨hm, blk_far (blk_grown I.d hg (Kd.R_ne hr I.d ht)) (show gd ≠ gm from fun e => blk_ne I.d I.m.msg (by decide) e) v1, I.hd⟩
end
theorem DMI.okq_ {v wr : World} {okq okq' : Nat → Prop} {g2 gc gd gm : Nat} {Z C D : Array Value} {h : S24} {vq va vu ve : Value} {q : List S47} {a u e : List S53} (I : DMI v wr okq g2 gc gd gm Z C h vq va vu ve q a u e D) (ho : ∀ k, okq k → k < wr.heap.size → okq' k) : DMI v wr okq' g2 gc gd gm Z C h vq va vu ve q a u e D := ⟨I.m.okq_ ho, I.d, I.hd⟩
theorem storeRowD_ {P : Program} {ops : Array Oper} {Q : Exit → Act → World → Prop} {oi : Oper} {N : Option Tmp} {a : Act} {w : World} {K : Act → World → Prop} (hw : Region.wanted oi (yielded ops a.tmps) = true) (ty : TypeId) (x y : Operand) (ho : oi.op = .store ty x y)
    (g : Nat) (cells : Array Value) (hx : a.eval x = .pointer (some ⟨g, 0, none⟩)) (hy : a.eval y = .agg cells) (t : TypeId) (old : Array Value) (hg : w.heap[g]? = some (.cells old t (0, 0))) (hi : (P.info? ty).map (·.size) = some cells.size)
    (hold : old.size = cells.size) (h1 : cells.all (·.oneCell') = true) (h : K (a.put oi.dst undef) (w.setRow g cells)) : if Region.wanted oi (yielded ops a.tmps) = true then Oper.wp P oi a w K Q else K (a.put N undef) w := by
  rw [if_pos hw]
  exact wp_store_row ty x y ho g cells hx hy t old hg hi hold h1 h
theorem setRow_below {B g : Nat} {w0 w : World} (hb : Below B w0 w) (hBg : B ≤ g) (cs : Array Value) : Below B w0 (w.setRow g cs) :=
  ⟨hb.os, hb.tape, hb.output, by rw [setRow_size]; exact hb.size, fun k hk => (setRow_other w g k cs (by omega)).trans (hb.block k hk)⟩

end Go.Proofs.YtcamchdenjpmhaaDoor.F
namespace Go.Proofs.YtcamchdenjpmhaaDoor.F
open Go Go.Shelf Go.RowKit Go.Proofs.YtcamchdenjpmhaaDoorW.PrintWords Go.Proofs.YtcamchdenjpmhaaDoorW.PrintLast Go.Proofs.YtcamchdenjpmhaaDoorW.PrintMore
attribute [local go_sem] max2_int min2_int max_two min_two max_three min_three max_four min_four   -- for this text's walks alone
set_option linter.unusedVariables false
set_option linter.unusedSimpArgs false

/-! ### spec_l04Read: function 12 -/
abbrev ReadR := Int × Bool × Int × Bool × Bool × Bool × Bool × Bool × Bool × Bool × Int × (List (S47)) × (List (S53)) × (List (S53)) × (List (S53)) × Int × Int
def readZ (c : Int) : ReadR := (0, false, 0, false, false, false, false, false, false, false, 0, [], [], [], [], 0, c)
def spec_l04Read.cut (l0 : List Int) (p : Int) : ByteArray := strOfNums ((l0.take (p + 4).toNat).drop p.toNat)
def spec_l04Read.lq (k : Nat) (l0 : List Int) : Nat → Int → List (S47) → Option (Bool × Int × List (S47))
  | 0, p, q => some (true, p, q)
  | m + 1, p, q => (spec_DecodeName.f k l0 p).bind fun t => if 0 ≤ t.2.1 ∧ t.2.1 ≤ 1000000 then (if t.2.2 = 0 then (if t.2.1 + 4 > (l0.length : Int) then some (false, 8, []) else
      (spec_l02Num.f k ((spec_l04Read.cut l0 t.2.1).extract 0 2)).bind fun ty => (spec_l02Num.f k ((spec_l04Read.cut l0 t.2.1).extract 2 (spec_l04Read.cut l0 t.2.1).size)).bind fun cl => if q.length ≤ 100000 then spec_l04Read.lq k l0 m (t.2.1 + 4) (q ++ [⟨t.1, ty, cl⟩]) else none) else some (false, t.2.2, [])) else none
def spec_l04Read.lr (k : Nat) (l0 : List Int) : Nat → Int → Int → List (S53) → Option (Bool × Int × Int × List (S53))
  | 0, p, l, a => some (true, p, l, a)
  | m + 1, p, _, a => (spec_l04Record.f k l0 p).bind fun t => if t.2.2.2.2.2.2 = 0 then (if a.length ≤ 100000 then spec_l04Read.lr k l0 m t.2.2.2.2.2.1 p (a ++ [⟨t.1, t.2.1, t.2.2.1, t.2.2.2.1, t.2.2.2.2.1⟩]) else none) else some (false, t.2.2.2.2.2.2, 0, [])
abbrev RestR := Bool × Int × Int × List (S53) × List (S53) × List (S53)
def spec_l04Read.rest (k : Nat) (l0 : List Int) (n1 n2 n3 : Nat) : Nat → Int → Int → List (S53) → List (S53) → List (S53) → Option RestR
  | 1, p, l, a, u, e => (spec_l04Read.lr k l0 n1 p l a).bind fun x => if x.1 = true then (spec_l04Read.lr k l0 n2 x.2.1 x.2.2.1 u).bind fun y => if y.1 = true then (spec_l04Read.lr k l0 n3 y.2.1 y.2.2.1 e).bind fun z => if z.1 = true then some (true, z.2.1, z.2.2.1, x.2.2.2, y.2.2.2, z.2.2.2) else some (false, z.2.1, 0, [], [], []) else some (false, y.2.1, 0, [], [], []) else some (false, x.2.1, 0, [], [], [])
  | 2, p, l, a, u, e => (spec_l04Read.lr k l0 n2 p l u).bind fun y => if y.1 = true then (spec_l04Read.lr k l0 n3 y.2.1 y.2.2.1 e).bind fun z => if z.1 = true then some (true, z.2.1, z.2.2.1, a, y.2.2.2, z.2.2.2) else some (false, z.2.1, 0, [], [], []) else some (false, y.2.1, 0, [], [], [])
  | 3, p, l, a, u, e => (spec_l04Read.lr k l0 n3 p l e).bind fun z => if z.1 = true then some (true, z.2.1, z.2.2.1, a, u, z.2.2.2) else some (false, z.2.1, 0, [], [], [])
  | _, p, l, a, u, e => some (true, p, l, a, u, e)
def spec_l04Read.f (k : Nat) (l0 : List Int) : Option ReadR := if (l0.length : Int) > 65535 then some (readZ 11) else
  (spec_DecodeHead.f k l0).bind fun (t1, t2, t3, t4, t5, t6, t7, t8, t9, t10, t11, n0, n1, n2, n3, code) => if code = 0 then
    (if 0 ≤ n0 ∧ n0 ≤ 65535 ∧ 0 ≤ n1 ∧ n1 ≤ 65535 ∧ 0 ≤ n2 ∧ n2 ≤ 65535 ∧ 0 ≤ n3 ∧ n3 ≤ 65535 then
      (if n0 + n1 + n2 + n3 > 400 then some (readZ 12) else
        (spec_l04Read.lq k l0 n0.toNat 12 []).bind fun x0 => if x0.1 = true then (spec_l04Read.rest k l0 n1.toNat n2.toNat n3.toNat 1 x0.2.1 0 [] [] []).bind fun x => if x.1 = true then (if x.2.1 = (l0.length : Int) then some (t1, t2, t3, t4, t5, t6, t7, t8, t9, t10, t11, x0.2.2, x.2.2.2.1, x.2.2.2.2.1, x.2.2.2.2.2, x.2.2.1, 0) else some (readZ 10)) else some (readZ x.2.1) else some (readZ x0.2.1))
    else none) else some (readZ code)
theorem spec_l04Read.lq_mono (k : Nat) (l0 : List Int) : ∀ (m : Nat) (p : Int) (q : List (S47)), LeO (spec_l04Read.lq k l0 m p q) (spec_l04Read.lq (k + 1) l0 m p q) := by
  intro m
  induction m with
  | zero => intro p q; exact LeO.refl _
  | succ m ih => intro p q; exact LeO.bind (spec_DecodeName.mono _ _ _) (fun t => LeO.ite (LeO.ite (LeO.ite (LeO.refl _) (LeO.bind (spec_l02Num.mono _ _) (fun _ => LeO.bind (spec_l02Num.mono _ _) (fun _ => LeO.ite (ih _ _) (LeO.refl _))))) (LeO.refl _)) (LeO.refl _))
theorem spec_l04Read.lr_mono (k : Nat) (l0 : List Int) : ∀ (m : Nat) (p l : Int) (a : List (S53)), LeO (spec_l04Read.lr k l0 m p l a) (spec_l04Read.lr (k + 1) l0 m p l a) := by
  intro m
  induction m with
  | zero => intro p l a; exact LeO.refl _
  | succ m ih => intro p l a; exact LeO.bind (spec_l04Record.mono _ _ _) (fun t => LeO.ite (LeO.ite (ih _ _ _) (LeO.refl _)) (LeO.refl _))
theorem spec_l04Read.mono : ∀ a0 k, LeO (spec_l04Read.f k a0) (spec_l04Read.f (k + 1) a0) := by
  intro a0 k
  unfold spec_l04Read.f
  refine LeO.ite (LeO.refl _) (LeO.bind (spec_DecodeHead.mono _ _) (fun t => ?_))
  obtain ⟨t1, t2, t3, t4, t5, t6, t7, t8, t9, t10, t11, n0, n1, n2, n3, code⟩ := t
  dsimp only
  refine LeO.ite (LeO.ite (LeO.ite (LeO.refl _) (LeO.bind (spec_l04Read.lq_mono _ _ _ _ _) (fun x0 => LeO.ite (LeO.bind ?_ (fun x => LeO.refl _)) (LeO.refl _)))) (LeO.refl _)) (LeO.refl _)
  exact LeO.bind (spec_l04Read.lr_mono _ _ _ _ _ _) (fun x => LeO.ite (LeO.bind (spec_l04Read.lr_mono _ _ _ _ _ _) (fun y => LeO.ite (LeO.bind (spec_l04Read.lr_mono _ _ _ _ _ _) (fun z => LeO.refl _)) (LeO.refl _))) (LeO.refl _))
set_option maxHeartbeats 16000000 in
set_option maxRecDepth 100000 in
theorem spec_l04Read.calls (k : Nat) (A0 : Option Addr) (c0 : Nat) (l0 : List Int) (r1 : Int) (r2 : Bool) (r3 : Int) (r4 : Bool) (r5 : Bool) (r6 : Bool) (r7 : Bool) (r8 : Bool) (r9 : Bool) (r10 : Bool) (r11 : Int) (r12 : List (S47)) (r13 : List (S53)) (r14 : List (S53)) (r15 : List (S53)) (r16 : Int) (r17 : Int) (w : World) (hr0 : Kd.C (Kd.int .u8) w A0 l0.length l0) (hc0 : l0.length ≤ c0) (h : spec_l04Read.f k l0 = some (r1, r2, r3, r4, r5, r6, r7, r8, r9, r10, r11, r12, r13, r14, r15, r16, r17)) :
    Calls Tryd.prog 12 #[.slice A0 l0.length c0] w fun e w' => ∃ v11_ v12_ v13_ v14_ : Value, e = .returned (.tuple #[.agg #[.int .i64 r1, .bool r2, .int .i64 r3, .bool r4, .bool r5, .bool r6, .bool r7, .bool r8, .bool r9, .bool r10, .int .i64 r11, v11_, v12_, v13_, v14_], .int .i64 r16, .int .i64 r17]) ∧ Kd.R k47 47 w' w.heap.size (fun _ => True) v11_ r12 ∧ Kd.R k53 53 w' w.heap.size (fun k_ => some k_ ≠ (v13_ : Value).ownBlock ∧ some k_ ≠ (v14_ : Value).ownBlock) v12_ r13 ∧ Kd.R k53 53 w' w.heap.size (fun k_ => some k_ ≠ (v12_ : Value).ownBlock ∧ some k_ ≠ (v14_ : Value).ownBlock) v13_ r14 ∧ Kd.R k53 53 w' w.heap.size (fun k_ => some k_ ≠ (v12_ : Value).ownBlock ∧ some k_ ≠ (v13_ : Value).ownBlock) v14_ r15 ∧ Below w.heap.size w w' := by
  have HR := Aside0.mk hr0
  clear hr0
  unfold spec_l04Read.f at h
  by_cases hl : (l0.length : Int) > 65535
  · rw [if_pos hl] at h
    simp only [readZ, Option.some.injEq, Prod.mk.injEq] at h
    obtain ⟨rfl, rfl, rfl, rfl, rfl, rfl, rfl, rfl, rfl, rfl, rfl, rfl, rfl, rfl, rfl, rfl, rfl⟩ := h
    have ql : decide (65535 < (l0.length : Int)) = true := decide_eq_true hl
    go_enter Tryd.func12, Tryd.ntmps12
    go_wp2_with (first | ((with_reducible refine gate_store (t := 28) (p := 2) rfl ?_); refine wpList_store_row rfl 28 (.tmp 2) _ rfl w.heap.size (#[.int .i64 0, .bool false, .int .i64 0, .bool false, .bool false, .bool false, .bool false, .bool false, .bool false, .bool false, .int .i64 0, .slice none 0 0, .slice none 0 0, .slice none 0 0, .slice none 0 0]) rfl rfl _ _ (blk_new w _) ?hi ?ho ?h1 ?_; (case hi => kernel_rfl); (case ho => rfl); (case h1 => kernel_rfl)))
    exact bodyPost_ret (results_ctt rfl _ _ w.heap.size 28 #[.int .i64 0, .bool false, .int .i64 0, .bool false, .bool false, .bool false, .bool false, .bool false, .bool false, .bool false, .int .i64 0, .slice none 0 0, .slice none 0 0, .slice none 0 0, .slice none 0 0] (0, 0) _ rfl (setRow_heap _ _ _ _ _ _ (blk_new w _)) Tryd.underlying28 rfl (by kernel_rfl)) rfl ⟨_, _, _, _, rfl, Kd.R_nil _ _ _ _ _, Kd.R_nil _ _ _ _ _, Kd.R_nil _ _ _ _ _, Kd.R_nil _ _ _ _ _, setRow_below (below_alloc (Below.refl _ _) _) (Nat.le_refl _) _⟩
  rw [if_neg hl] at h
  have ql : decide (65535 < (l0.length : Int)) = false := decide_eq_false hl
  replace h := Option.bind_eq_some_iff.mp h
  obtain ⟨⟨t1, t2, t3, t4, t5, t6, t7, t8, t9, t10, t11, n0, n1, n2, n3, code⟩, A1, h⟩ := h
  have H1 := Aside0.mk A1
  dsimp only at h
  have H := Aside0.mk h
  clear A1 h
  go_enter Tryd.func12, Tryd.ntmps12
  go_wp2_with fail
  refine (spec_DecodeHead.calls k A0 c0 l0 _ _ _ _ _ _ _ _ _ _ _ _ _ _ _ _ _ (Kd.C_alloc HR.out _) hc0 H1.out).mono ?_
  rintro e w1 ⟨rfl, hb⟩
  have HZ := Aside0.mk (blk_below (blk_new w (Obj.cells #[.int .i64 0, .bool false, .int .i64 0, .bool false, .bool false, .bool false, .bool false, .bool false, .bool false, .bool false, .int .i64 0, .slice none 0 0, .slice none 0 0, .slice none 0 0, .slice none 0 0] 28)) hb)
  have HB := Aside0.mk (below_step (below_alloc (Below.refl _ _) _) hb)
  clear hb ql
  go_upto_region 4 with fail
  have hs1 := HB.out.size
  have esz : (w1.alloc (Obj.cells #[.int .i64 t1, .bool t2, .int .i64 t3, .bool t4, .bool t5, .bool t6, .bool t7, .bool t8, .bool t9, .bool t10, .int .i64 t11] 24)).heap.size = w1.heap.size + 1 := by simp
  have HH := Aside0.mk (blk_alloc (blk_new w1 (Obj.cells #[.int .i64 t1, .bool t2, .int .i64 t3, .bool t4, .bool t5, .bool t6, .bool t7, .bool t8, .bool t9, .bool t10, .int .i64 t11] 24)) (Obj.cells #[.int .i64 n0, .int .i64 n1, .int .i64 n2, .int .i64 n3] 39))
  have hcn := blk_new (w1.alloc (Obj.cells #[.int .i64 t1, .bool t2, .int .i64 t3, .bool t4, .bool t5, .bool t6, .bool t7, .bool t8, .bool t9, .bool t10, .int .i64 t11] 24)) (Obj.cells #[.int .i64 n0, .int .i64 n1, .int .i64 n2, .int .i64 n3] 39)
  rw [esz] at hcn
  have HCn := Aside0.mk hcn
  have HZ1 := Aside0.mk (blk_alloc (blk_alloc HZ.out (Obj.cells #[.int .i64 t1, .bool t2, .int .i64 t3, .bool t4, .bool t5, .bool t6, .bool t7, .bool t8, .bool t9, .bool t10, .int .i64 t11] 24)) (Obj.cells #[.int .i64 n0, .int .i64 n1, .int .i64 n2, .int .i64 n3] 39))
  have HB1 := Aside0.mk (below_alloc (below_alloc HB.out (Obj.cells #[.int .i64 t1, .bool t2, .int .i64 t3, .bool t4, .bool t5, .bool t6, .bool t7, .bool t8, .bool t9, .bool t10, .int .i64 t11] 24)) (Obj.cells #[.int .i64 n0, .int .i64 n1, .int .i64 n2, .int .i64 n3] 39))
  clear HZ HB hcn esz
  generalize (w1.alloc (Obj.cells #[.int .i64 t1, .bool t2, .int .i64 t3, .bool t4, .bool t5, .bool t6, .bool t7, .bool t8, .bool t9, .bool t10, .int .i64 t11] 24)).alloc (Obj.cells #[.int .i64 n0, .int .i64 n1, .int .i64 n2, .int .i64 n3] 39) = W1 at *
  generalize w1.heap.size = gh at *
  by_cases hc : code = 0
  case neg =>
    have h := H.out
    rw [if_neg hc] at h
    simp only [readZ, Option.some.injEq, Prod.mk.injEq] at h
    obtain ⟨rfl, rfl, rfl, rfl, rfl, rfl, rfl, rfl, rfl, rfl, rfl, rfl, rfl, rfl, rfl, rfl, rfl⟩ := h
    have q5 : (code != 0) = true := bne_iff_ne.mpr hc
    clear hc
    go_wp2_with (first | ((with_reducible refine gate_store (t := 28) (p := 2) rfl ?_); refine wpList_store_row rfl 28 (.tmp 2) _ rfl w.heap.size (#[.int .i64 0, .bool false, .int .i64 0, .bool false, .bool false, .bool false, .bool false, .bool false, .bool false, .bool false, .int .i64 0, .slice none 0 0, .slice none 0 0, .slice none 0 0, .slice none 0 0]) rfl rfl _ _ (HZ1.out) ?hi ?ho ?h1 ?_; (case hi => kernel_rfl); (case ho => rfl); (case h1 => kernel_rfl)))
    exact bodyPost_ret (results_ctt rfl _ _ w.heap.size 28 #[.int .i64 0, .bool false, .int .i64 0, .bool false, .bool false, .bool false, .bool false, .bool false, .bool false, .bool false, .int .i64 0, .slice none 0 0, .slice none 0 0, .slice none 0 0, .slice none 0 0] (0, 0) _ rfl (setRow_heap _ _ _ _ _ _ (HZ1.out)) Tryd.underlying28 rfl (by kernel_rfl)) rfl ⟨_, _, _, _, rfl, Kd.R_nil _ _ _ _ _, Kd.R_nil _ _ _ _ _, Kd.R_nil _ _ _ _ _, Kd.R_nil _ _ _ _ _, setRow_below (HB1.out) (Nat.le_refl _) _⟩
  case pos =>
    have h := H.out
    rw [if_pos hc] at h
    subst hc
    clear H H1
    split at h
    case isFalse => cases h
    case isTrue hn =>
    obtain ⟨hn0, hn0', hn1, hn1', hn2, hn2', hn3, hn3'⟩ := hn
    obtain ⟨n0, rfl⟩ := Int.eq_ofNat_of_zero_le hn0
    obtain ⟨n1, rfl⟩ := Int.eq_ofNat_of_zero_le hn1
    obtain ⟨n2, rfl⟩ := Int.eq_ofNat_of_zero_le hn2
    obtain ⟨n3, rfl⟩ := Int.eq_ofNat_of_zero_le hn3
    have kc0 : W1.cell? ⟨gh + 1, 0, none⟩ = some (.int .i64 n0) := (blk_cell HCn.out 0).trans rfl
    have kc1 : W1.cell? ⟨gh + 1, 1, none⟩ = some (.int .i64 n1) := (blk_cell HCn.out 1).trans rfl
    have kc2 : W1.cell? ⟨gh + 1, 2, none⟩ = some (.int .i64 n2) := (blk_cell HCn.out 2).trans rfl
    have kc3 : W1.cell? ⟨gh + 1, 3, none⟩ = some (.int .i64 n3) := (blk_cell HCn.out 3).trans rfl
    by_cases hsum : (n0 : Int) + n1 + n2 + n3 > 400
    · rw [if_pos hsum] at h
      simp only [readZ, Option.some.injEq, Prod.mk.injEq] at h
      obtain ⟨rfl, rfl, rfl, rfl, rfl, rfl, rfl, rfl, rfl, rfl, rfl, rfl, rfl, rfl, rfl, rfl, rfl⟩ := h
      have q5 : decide (400 < (n0 : Int) + n1 + n2 + n3) = true := decide_eq_true hsum
      go_wp2_with (first | ((with_reducible refine gate_store (t := 28) (p := 2) rfl ?_); refine wpList_store_row rfl 28 (.tmp 2) _ rfl w.heap.size (#[.int .i64 0, .bool false, .int .i64 0, .bool false, .bool false, .bool false, .bool false, .bool false, .bool false, .bool false, .int .i64 0, .slice none 0 0, .slice none 0 0, .slice none 0 0, .slice none 0 0]) rfl rfl _ _ (HZ1.out) ?hi ?ho ?h1 ?_; (case hi => kernel_rfl); (case ho => rfl); (case h1 => kernel_rfl)))
      exact bodyPost_ret (results_ctt rfl _ _ w.heap.size 28 #[.int .i64 0, .bool false, .int .i64 0, .bool false, .bool false, .bool false, .bool false, .bool false, .bool false, .bool false, .int .i64 0, .slice none 0 0, .slice none 0 0, .slice none 0 0, .slice none 0 0] (0, 0) _ rfl (setRow_heap _ _ _ _ _ _ (HZ1.out)) Tryd.underlying28 rfl (by kernel_rfl)) rfl ⟨_, _, _, _, rfl, Kd.R_nil _ _ _ _ _, Kd.R_nil _ _ _ _ _, Kd.R_nil _ _ _ _ _, Kd.R_nil _ _ _ _ _, setRow_below (HB1.out) (Nat.le_refl _) _⟩
    · rw [if_neg hsum] at h
      simp only [Int.toNat_natCast] at h
      have q5 : decide (400 < (n0 : Int) + n1 + n2 + n3) = false := decide_eq_false hsum
      replace h := Option.bind_eq_some_iff.mp h
      obtain ⟨⟨ok0, p0, q0⟩, A2, h⟩ := h
      have H2 := Aside0.mk A2
      dsimp only at h
      have H := Aside0.mk h
      clear A2 h
      go_wp2_with (first | ((with_reducible refine gate_ (.load 24 (.tmp 5)) rfl ?_); refine wpList_load_row rfl 24 (.tmp 5) rfl gh rfl 24 _ _ _ HH.out Tryd.underlying24 rfl ?hi ?_; (case hi => kernel_rfl)))
      have HI := Aside0.mk (show MsgI w (W1.alloc (Obj.cells (msgC (⟨t1, t2, t3, t4, t5, t6, t7, t8, t9, t10, t11⟩ : S24) nilV nilV nilV nilV) 28)) (fun _ => True) w.heap.size (gh + 1) W1.heap.size #[.int .i64 0, .bool false, .int .i64 0, .bool false, .bool false, .bool false, .bool false, .bool false, .bool false, .bool false, .int .i64 0, .slice none 0 0, .slice none 0 0, .slice none 0 0, .slice none 0 0] (cntC n0 n1 n2 n3) (⟨t1, t2, t3, t4, t5, t6, t7, t8, t9, t10, t11⟩ : S24) nilV nilV nilV nilV [] [] [] [] from
        ⟨blk_alloc HZ1.out _, blk_alloc HCn.out _, blk_new W1 _, Kd.R_nil _ _ _ _ _, Kd.R_nil _ _ _ _ _, Kd.R_nil _ _ _ _ _, Kd.R_nil _ _ _ _ _, below_alloc HB1.out _, Nat.le_refl _, (by omega), (by have := HB1.out.size; omega), (by have := lt_of_block HZ1.out; omega)⟩)
      unfold msgC at HI
      clear HH HCn HZ1 kc0 kc1 kc2 kc3
      change Aside0 (MsgI w (W1.alloc (Obj.cells #[.int .i64 t1, .bool t2, .int .i64 t3, .bool t4, .bool t5, .bool t6, .bool t7, .bool t8, .bool t9, .bool t10, .int .i64 t11, .slice none 0 0, .slice none 0 0, .slice none 0 0, .slice none 0 0] 28)) _ _ _ _ _ _ _ _ _ _ _ _ _ _ _) at HI
      generalize W1.alloc (Obj.cells #[.int .i64 t1, .bool t2, .int .i64 t3, .bool t4, .bool t5, .bool t6, .bool t7, .bool t8, .bool t9, .bool t10, .int .i64 t11, .slice none 0 0, .slice none 0 0, .slice none 0 0, .slice none 0 0] 28) = W2 at *
      generalize W1.heap.size = gm at *
      clear HB1 hs1
      go_loopw [9, 11] (fun x9 i wr => ∃ (j : Nat) (vq : Value) (p : Int) (q : List (S47)), x9 = .int .i64 p ∧ i = .int .i64 j ∧ j ≤ n0 ∧ Aside0 (MsgI w wr (fun _ => True) w.heap.size (gh + 1) gm #[.int .i64 0, .bool false, .int .i64 0, .bool false, .bool false, .bool false, .bool false, .bool false, .bool false, .bool false, .int .i64 0, .slice none 0 0, .slice none 0 0, .slice none 0 0, .slice none 0 0] (cntC n0 n1 n2 n3) (⟨t1, t2, t3, t4, t5, t6, t7, t8, t9, t10, t11⟩ : S24) vq nilV nilV nilV q [] [] []) ∧ Aside0 (spec_l04Read.lq k l0 (n0 - j) p q = some (ok0, p0, q0))) (fun _ i _ => n0 - (intOf i).toNat)
      case atStart => exact ⟨0, nilV, 12, [], rfl, rfl, Nat.zero_le _, HI, H2⟩
      case round =>
        clear HI H2
        obtain ⟨j, vq, p, q, rfl, rfl, hj, I, HL⟩ := hrel
        have kc0 : wr.cell? ⟨gh + 1, 0, none⟩ = some (.int .i64 n0) := (blk_cell I.out.cnt 0).trans rfl
        by_cases hlt : j < n0
        · have hl2 := HL.out
          rw [show n0 - j = (n0 - (j + 1)) + 1 by omega, spec_l04Read.lq] at hl2
          replace hl2 := Option.bind_eq_some_iff.mp hl2
          obtain ⟨⟨s1, x1, y1⟩, B1, hl2⟩ := hl2
          have G1 := Aside0.mk B1
          dsimp only at hl2
          split at hl2
          case isFalse => cases hl2
          case isTrue hx =>
          obtain ⟨hx0, hx1⟩ := hx
          have HL2 := Aside0.mk hl2
          clear B1 hl2 HL
          have qlt : decide ((j : Int) < (n0 : Int)) = true := decide_eq_true (by omega)
          have qlt2 : decide (j < n0) = true := decide_eq_true hlt
          go_wp2_with fail
          refine (spec_DecodeName.calls k A0 c0 l0 p _ _ _ _ (Kd.C_below HR.out I.out.bel) hc0 G1.out).mono ?_
          rintro e w3 ⟨rfl, hb⟩
          have I1 := Aside0.mk (I.out.below hb)
          clear hb I kc0 qlt qlt2
          by_cases hy : y1 = 0
          case neg =>
            have hl2 := HL2.out
            rw [if_neg hy] at hl2
            simp only [Option.some.injEq, Prod.mk.injEq] at hl2
            obtain ⟨rfl, rfl, rfl⟩ := hl2
            have hend := H.out
            rw [if_neg (by simp)] at hend
            simp only [readZ, Option.some.injEq, Prod.mk.injEq] at hend
            obtain ⟨rfl, rfl, rfl, rfl, rfl, rfl, rfl, rfl, rfl, rfl, rfl, rfl, rfl, rfl, rfl, rfl, rfl⟩ := hend
            have qy : (y1 != 0) = true := bne_iff_ne.mpr hy
            clear hy
            go_wp2_with (first | ((with_reducible refine gate_store (t := 28) (p := 2) rfl ?_); refine wpList_store_row rfl 28 (.tmp 2) _ rfl w.heap.size (#[.int .i64 0, .bool false, .int .i64 0, .bool false, .bool false, .bool false, .bool false, .bool false, .bool false, .bool false, .int .i64 0, .slice none 0 0, .slice none 0 0, .slice none 0 0, .slice none 0 0]) rfl rfl _ _ (I1.out.res) ?hi ?ho ?h1 ?_; (case hi => kernel_rfl); (case ho => rfl); (case h1 => kernel_rfl)))
            exact bodyPost_ret (results_ctt rfl _ _ w.heap.size 28 #[.int .i64 0, .bool false, .int .i64 0, .bool false, .bool false, .bool false, .bool false, .bool false, .bool false, .bool false, .int .i64 0, .slice none 0 0, .slice none 0 0, .slice none 0 0, .slice none 0 0] (0, 0) _ rfl (setRow_heap _ _ _ _ _ _ (I1.out.res)) Tryd.underlying28 rfl (by kernel_rfl)) rfl ⟨_, _, _, _, rfl, Kd.R_nil _ _ _ _ _, Kd.R_nil _ _ _ _ _, Kd.R_nil _ _ _ _ _, Kd.R_nil _ _ _ _ _, setRow_below (I1.out.bel) (Nat.le_refl _) _⟩
          case pos =>
            have hl2 := HL2.out
            rw [if_pos hy] at hl2
            subst hy
            obtain ⟨x1, rfl⟩ := Int.eq_ofNat_of_zero_le hx0
            by_cases hx4 : (x1 : Int) + 4 > (l0.length : Int)
            · rw [if_pos hx4] at hl2
              simp only [Option.some.injEq, Prod.mk.injEq] at hl2
              obtain ⟨rfl, rfl, rfl⟩ := hl2
              have hend := H.out
              rw [if_neg (by simp)] at hend
              simp only [readZ, Option.some.injEq, Prod.mk.injEq] at hend
              obtain ⟨rfl, rfl, rfl, rfl, rfl, rfl, rfl, rfl, rfl, rfl, rfl, rfl, rfl, rfl, rfl, rfl, rfl⟩ := hend
              have qx : decide ((l0.length : Int) < (x1 : Int) + 4) = true := decide_eq_true hx4
              go_wp2_with (first | ((with_reducible refine gate_store (t := 28) (p := 2) rfl ?_); refine wpList_store_row rfl 28 (.tmp 2) _ rfl w.heap.size (#[.int .i64 0, .bool false, .int .i64 0, .bool false, .bool false, .bool false, .bool false, .bool false, .bool false, .bool false, .int .i64 0, .slice none 0 0, .slice none 0 0, .slice none 0 0, .slice none 0 0]) rfl rfl _ _ (I1.out.res) ?hi ?ho ?h1 ?_; (case hi => kernel_rfl); (case ho => rfl); (case h1 => kernel_rfl)))
              exact bodyPost_ret (results_ctt rfl _ _ w.heap.size 28 #[.int .i64 0, .bool false, .int .i64 0, .bool false, .bool false, .bool false, .bool false, .bool false, .bool false, .bool false, .int .i64 0, .slice none 0 0, .slice none 0 0, .slice none 0 0, .slice none 0 0] (0, 0) _ rfl (setRow_heap _ _ _ _ _ _ (I1.out.res)) Tryd.underlying28 rfl (by kernel_rfl)) rfl ⟨_, _, _, _, rfl, Kd.R_nil _ _ _ _ _, Kd.R_nil _ _ _ _ _, Kd.R_nil _ _ _ _ _, Kd.R_nil _ _ _ _ _, setRow_below (I1.out.bel) (Nat.le_refl _) _⟩
            · rw [if_neg hx4] at hl2
              have qx : decide ((l0.length : Int) < (x1 : Int) + 4) = false := decide_eq_false hx4
              replace hl2 := Option.bind_eq_some_iff.mp hl2
              obtain ⟨ty, B2, hl2⟩ := hl2
              replace hl2 := Option.bind_eq_some_iff.mp hl2
              obtain ⟨cl, B3, hl2⟩ := hl2
              have G2 := Aside0.mk B2
              have G3 := Aside0.mk B3
              split at hl2
              case isFalse => cases hl2
              case isTrue hlen =>
              clear HL2 B2 B3
              have HL2 := Aside0.mk hl2
              clear hl2
              obtain ⟨i0, hi0, _, hsz, _⟩ := info_parts info5
              obtain ⟨A', hcut, hA, hC⟩ := print_mid_of (P := Tryd.prog) (Value.int .u8) 0 22 5 .i64 .i64 Tryd.underlying22 hi0 hsz A0 c0 l0 (x1 : Int) ((x1 : Int) + 4) (by omega) (by omega) (by omega) hc0
              have hcv2 := string_of_reads (P := Tryd.prog) (c := c0 - x1) Tryd.underlying22 Tryd.underlying5 Tryd.underlying9 (hA w3 (Kd.reads_of_C (enc := Value.int .u8) (d := (0 : Int)) (h1 := fun _ => rfl) (Kd.C_below HR.out I1.out.bel)))
              have hss : ((l0.take ((x1 : Int) + 4).toNat).drop (x1 : Int).toNat).length = 4 := by rw [List.length_drop, List.length_take]; omega
              obtain ⟨S, hS⟩ : ∃ S, spec_l04Read.cut l0 (x1 : Int) = S := ⟨_, rfl⟩
              have hSs : S.size = 4 := by rw [← hS, spec_l04Read.cut, strOfNums_size, hss]
              rw [show strOfNums ((l0.take ((x1 : Int) + 4).toNat).drop (x1 : Int).toNat) = S from hS] at hcv2
              rw [hss] at hcv2 hcut
              clear hA hC hss hsz hi0
              rw [hS] at G2 G3
              clear hS
              have qs1 : (2 : Int) ≤ (S.size : Int) := by omega
              have qs2 : ((2 : Int) ≤ (S.size : Int)) = True := eq_true qs1
              have qs3 : (2 ≤ S.size) = True := eq_true (by omega)
              clear hSs
              go_upto_region 20 with fail
              have IE := Aside0.mk I1.out.drew
              have km : w3.cell? ⟨gm, 11, none⟩ = some vq := (blk_cell I1.out.msg 11).trans rfl
              clear hcut hcv2 qx
              refine start_ (n := 14) (S := fun w' => w'.cell? ⟨gm, 11, none⟩ = some vq) (ds := [13]) #[false, false, false, false, false, false, false, false, false, false, false, false, false, false] (by kernel_rfl) rfl rfl (km) (fun hHeld => ?_)
              refine pure_ (i := 0) (N := some 79) (v := ?_) (a' := ?_) #[true, false, false, false, false, false, false, false, false, false, false, false, false, false] rfl rfl (by kernel_rfl) (fun _ _ _ h => h) (Or.inl ⟨by rfl, ?_⟩) ?_ ?_
              rotate_left
              · intro w'
                go_simp
                with_reducible rfl
              rotate_left
              · simp only [Act.put, List.setIfInBounds_toArray, List.set_cons_zero, List.set_cons_succ, i64_w, i32_w]
                rfl
              refine pure_ (i := 2) (N := some 81) (v := ?_) (a' := ?_) #[true, false, true, false, false, false, false, false, false, false, false, false, false, false] rfl rfl (by kernel_rfl) (fun _ _ _ h => h) (Or.inl ⟨by rfl, ?_⟩) ?_ ?_
              rotate_left
              · intro w'
                go_simp
                with_reducible rfl
              rotate_left
              · simp only [Act.put, List.setIfInBounds_toArray, List.set_cons_zero, List.set_cons_succ, i64_w, i32_w]
                rfl
              refine pure_ (i := 3) (N := some 82) (v := ?_) (a' := ?_) #[true, false, true, true, false, false, false, false, false, false, false, false, false, false] rfl rfl (by kernel_rfl) (fun _ _ _ h => h) (Or.inl ⟨by rfl, ?_⟩) ?_ ?_
              rotate_left
              · intro w'
                go_simp
                with_reducible rfl
              rotate_left
              · simp only [Act.put, List.setIfInBounds_toArray, List.set_cons_zero, List.set_cons_succ, i64_w, i32_w]
                rfl
              refine pure_ (i := 4) (N := some 83) (v := ?_) (a' := ?_) #[true, false, true, true, true, false, false, false, false, false, false, false, false, false] rfl rfl (by kernel_rfl) (fun _ _ _ h => h) (Or.inl ⟨by rfl, ?_⟩) ?_ ?_
              rotate_left
              · intro w'
                go_simp
                with_reducible rfl
              rotate_left
              · simp only [Act.put, List.setIfInBounds_toArray, List.set_cons_zero, List.set_cons_succ, i64_w, i32_w]
                rfl
              refine pure_ (i := 6) (N := some 85) (v := ?_) (a' := ?_) #[true, false, true, true, true, false, true, false, false, false, false, false, false, false] rfl rfl (by kernel_rfl) (fun _ _ _ h => h) (Or.inl ⟨by rfl, ?_⟩) ?_ ?_
              rotate_left
              · intro w'
                go_simp
                with_reducible rfl
              rotate_left
              · simp only [Act.put, List.setIfInBounds_toArray, List.set_cons_zero, List.set_cons_succ, i64_w, i32_w]
                rfl
              refine pure_ (i := 7) (N := some 86) (v := ?_) (a' := ?_) #[true, false, true, true, true, false, true, true, false, false, false, false, false, false] rfl rfl (by kernel_rfl) (fun _ _ _ h => h) (Or.inl ⟨by rfl, ?_⟩) ?_ ?_
              rotate_left
              · intro w'
                go_simp
                with_reducible rfl
              rotate_left
              · simp only [Act.put, List.setIfInBounds_toArray, List.set_cons_zero, List.set_cons_succ, i64_w, i32_w]
                rfl
              refine take_ (i := 1) (N := some 80) (v := ?_) (a' := ?_) #[true, true, true, true, true, false, true, true, false, false, false, false, false, false] rfl rfl (by kernel_rfl) (fun _ _ _ h => h) (Or.inl ⟨by rfl, ?_⟩) hHeld ?_ ?_
              rotate_left
              · intro w' s0
                go_simp
                with_reducible rfl
              rotate_left
              · simp only [Act.put, List.setIfInBounds_toArray, List.set_cons_zero, List.set_cons_succ, i64_w, i32_w]
                rfl
              refine one_ (i := 5) (N := some 84) #[true, true, true, true, true, true, true, true, false, false, false, false, false, false] rfl rfl (by kernel_rfl) (by decide) (fun K hK => ?_)
              refine goes_ Tryd.func27 (by kernel_rfl) rfl #[.string (S.extract 0 2)] (by rfl) rfl rfl (by simp only [List.map_toArray, List.map_cons, List.map_nil]; rfl) ?_
              with_reducible refine (spec_l02Num.calls k _ _ _ G2.out).mono ?_
              rintro e w4 ⟨rfl, hdr⟩
              refine ⟨_, rfl, ?_⟩
              have I2 := Aside0.mk (IE.out.below hdr.below)
              refine hK.out _ _ (((blk_cell I2.out.msg 11).trans rfl)) (fun hHeld => ?_)
              clear hK K
              refine norm_ (a' := ?_) ?_ ?_
              rotate_left
              · show Act.put _ (some 84) _ = _
                simp only [Act.put, List.setIfInBounds_toArray, List.set_cons_zero, List.set_cons_succ, i64_w, i32_w]
                rfl
              refine one_ (i := 8) (N := some 87) #[true, true, true, true, true, true, true, true, true, false, false, false, false, false] rfl rfl (by kernel_rfl) (by decide) (fun K hK => ?_)
              refine goes_ Tryd.func27 (by kernel_rfl) rfl #[.string (S.extract 2 S.size)] (by rfl) rfl rfl (by simp only [List.map_toArray, List.map_cons, List.map_nil]; rfl) ?_
              with_reducible refine (spec_l02Num.calls k _ _ _ G3.out).mono ?_
              rintro e w5 ⟨rfl, hdr5⟩
              refine ⟨_, rfl, ?_⟩
              have I3 := Aside0.mk (I2.out.below hdr5.below)
              refine hK.out _ _ (((blk_cell I3.out.msg 11).trans rfl)) (fun hHeld => ?_)
              clear hK K
              refine norm_ (a' := ?_) ?_ ?_
              rotate_left
              · show Act.put _ (some 87) _ = _
                simp only [Act.put, List.setIfInBounds_toArray, List.set_cons_zero, List.set_cons_succ, i64_w, i32_w]
                rfl
              refine pure_ (i := 9) (N := some 88) (v := ?_) (a' := ?_) #[true, true, true, true, true, true, true, true, true, true, false, false, false, false] rfl rfl (by kernel_rfl) (fun _ _ _ h => h) (Or.inl ⟨by rfl, ?_⟩) ?_ ?_
              rotate_left
              · intro w'
                go_simp
                with_reducible rfl
              rotate_left
              · simp only [Act.put, List.setIfInBounds_toArray, List.set_cons_zero, List.set_cons_succ, i64_w, i32_w]
                rfl
              refine one_ (i := 10) (N := some 89) #[true, true, true, true, true, true, true, true, true, true, true, false, false, false] rfl rfl (by kernel_rfl) (by decide) (fun K hK => ?_)
              refine value_ (w1 := ?_) (v := ?_) (by rfl) rfl ?_ ?_
              rotate_left 2
              · go_simp
                constructor
                · rfl
                · rfl
              refine hK.out _ _ (((blk_cell (blk_alloc I3.out.msg _) 11).trans rfl)) (fun hHeld => ?_)
              clear hK K
              refine norm_ (a' := ?_) ?_ ?_
              rotate_left
              · show Act.put _ (some 89) _ = _
                simp only [Act.put, List.setIfInBounds_toArray, List.set_cons_zero, List.set_cons_succ, i64_w, i32_w]
                rfl
              refine one_ (i := 11) (N := some 90) #[true, true, true, true, true, true, true, true, true, true, true, true, false, false] rfl rfl (by kernel_rfl) (by decide) (fun K hK => ?_)
              refine Kd.R_append_step k47 (w0 := w) w.heap.size (by rfl) (.tmp 80) (.tmp 89) 25 47 (.agg #[.string ⟨#[]⟩, .int .i64 0, .int .i64 0]) 32 rfl Tryd.underlying25 (by kernel_rfl) rfl (by decide) (by omega) vq q (⟨s1, ty, cl⟩ : S47) [.string s1, .int .i64 ty, .int .i64 cl] (fun _ => True) (fun _ => False) rfl rfl ?aP (fun _ hk => hk.elim) ?aF ?aO ?aB ?aS ?aL ?_
              (case aP => exact k47_mkM _ _ _ _)
              (case aF => exact fun _ _ => trivial)
              (case aO => exact I3.out.rq)
              (case aB => exact I3.out.bel)
              (case aS => exact I3.out.bel.size)
              (case aL => omega)
              intro v1 w6 ho hb6 hg6 hat
              obtain ⟨Av_, nv_, cv_, rfl⟩ : ∃ A n c, v1 = .slice A n c := (by obtain ⟨A, c, e⟩ := Kd.R_slice ho; exact ⟨A, _, c, e⟩)
              have kz := blk_grown I3.out.msg hg6 (Kd.R_ne I3.out.rq I3.out.msg (by decide))
              have kc := (blk_cell kz 11).trans rfl
              have kf := blk_frozen kz 11
              have I4 := Aside0.mk (I3.out.appQ ho hb6 hg6 hat)
              refine hK.out _ _ ((kc)) (fun hHeld => ?_)
              clear hK K
              refine norm_ (a' := ?_) ?_ ?_
              rotate_left
              · show Act.put _ (some 90) _ = _
                simp only [Act.put, List.setIfInBounds_toArray, List.set_cons_zero, List.set_cons_succ, i64_w, i32_w]
                rfl
              refine pure_ (i := 12) (N := some 91) (v := ?_) (a' := ?_) #[true, true, true, true, true, true, true, true, true, true, true, true, true, false] rfl rfl (by kernel_rfl) (fun _ _ _ h => h) (Or.inl ⟨by rfl, ?_⟩) ?_ ?_
              rotate_left
              · intro w'
                go_simp
                with_reducible rfl
              rotate_left
              · simp only [Act.put, List.setIfInBounds_toArray, List.set_cons_zero, List.set_cons_succ, i64_w, i32_w]
                rfl
              refine last_ (i := 13) (N := none) #[true, true, true, true, true, true, true, true, true, true, true, true, true, true] rfl rfl (by kernel_rfl) (by decide) (fun K hK => ?_)
              refine skip_ (w1 := ?_) (by rfl) rfl ?_ ?_
              rotate_left
              · go_simp
                rfl
              refine hK.out _ _ ?_
              clear hK K
              refine done_ (by kernel_rfl) ?_

              have wq : IntKind.i64.wrap ((x1 : Int) + 4) = (x1 : Int) + 4 := IntWalk.i64_in _ ⟨by omega, by omega⟩
              go_wp2
              clear wq
              go_roundw
              case rel => exact ⟨j + 1, _, (x1 : Int) + 4, q ++ [⟨s1, ty, cl⟩], rfl, by go_num, by omega, I4, HL2⟩
              case measure => simp [intOf]; omega
        · have hl2 := HL.out
          rw [show n0 - j = 0 by omega, spec_l04Read.lq] at hl2
          simp only [Option.some.injEq, Prod.mk.injEq] at hl2
          obtain ⟨rfl, rfl, rfl⟩ := hl2
          have h := H.out
          rw [if_pos rfl] at h
          replace h := Option.bind_eq_some_iff.mp h
          obtain ⟨⟨okF, pF, lF, aF, uF, eF⟩, B1, h⟩ := h
          have HREST := Aside0.mk B1
          dsimp only at h
          have HEND := Aside0.mk h
          clear H HL B1 h
          have qlt : decide ((j : Int) < (n0 : Int)) = false := decide_eq_false (by omega)
          have qlt2 : decide (j < n0) = false := decide_eq_false hlt
          have qlt3 : (j < n0) = False := eq_false hlt
          go_wp2
          clear kc0 qlt qlt2 qlt3 hlt
          obtain ⟨wo1, rfl⟩ : ∃ wo : World, wo = wr := ⟨_, rfl⟩
          go_loopw [9, 10, 16] (fun x9 x10 i wr => ∃ (kk : Nat) (va vu ve : Value) (a u e : List (S53)) (p l : Int), x9 = .int .i64 p ∧ x10 = .int .i64 l ∧ i = .int .i64 kk ∧ 1 ≤ kk ∧ kk ≤ 4 ∧ Aside0 (MsgI w wr (fun _ => True) w.heap.size (gh + 1) gm #[.int .i64 0, .bool false, .int .i64 0, .bool false, .bool false, .bool false, .bool false, .bool false, .bool false, .bool false, .int .i64 0, .slice none 0 0, .slice none 0 0, .slice none 0 0, .slice none 0 0] (cntC n0 n1 n2 n3) (⟨t1, t2, t3, t4, t5, t6, t7, t8, t9, t10, t11⟩ : S24) vq va vu ve q a u e) ∧ Aside0 (spec_l04Read.rest k l0 n1 n2 n3 kk p l a u e = some (okF, pF, lF, aF, uF, eF))) (fun _ _ i _ => 4 - (intOf i).toNat)
          case atStart => exact ⟨1, nilV, nilV, nilV, [], [], [], p, 0, rfl, rfl, rfl, by omega, by omega, I, HREST⟩
          case round =>
            clear I HREST
            obtain ⟨kk, va, vu, ve, a, u, e, p, l, rfl, rfl, rfl, hk1, hk4, I, HRE⟩ := hrel
            obtain rfl | rfl | rfl | rfl : kk = 1 ∨ kk = 2 ∨ kk = 3 ∨ kk = 4 := by omega
            all_goals clear hk1 hk4
            · skip
              have hr2 := HRE.out
              unfold spec_l04Read.rest at hr2
              replace hr2 := Option.bind_eq_some_iff.mp hr2
              obtain ⟨⟨okx, px, lx, ax⟩, B1, hr2⟩ := hr2
              have G1 := Aside0.mk B1
              have HRE2 := Aside0.mk hr2
              clear B1 hr2 HRE
              go_wp2
              obtain ⟨wo, rfl⟩ : ∃ wo : World, wo = wr := ⟨_, rfl⟩
              go_loopw [9, 10, 17] (fun x9 x10 i wr => ∃ (j : Nat) (vx : Value) (p l : Int) (xs : List (S53)), x9 = .int .i64 p ∧ x10 = .int .i64 l ∧ i = .int .i64 j ∧ j ≤ n1 ∧ Aside0 (MsgI w wr (fun _ => True) w.heap.size (gh + 1) gm #[.int .i64 0, .bool false, .int .i64 0, .bool false, .bool false, .bool false, .bool false, .bool false, .bool false, .bool false, .int .i64 0, .slice none 0 0, .slice none 0 0, .slice none 0 0, .slice none 0 0] (cntC n0 n1 n2 n3) (⟨t1, t2, t3, t4, t5, t6, t7, t8, t9, t10, t11⟩ : S24) vq vx vu ve q xs u e) ∧ Aside0 (spec_l04Read.lr k l0 (n1 - j) p l xs = some (okx, px, lx, ax))) (fun _ _ i _ => n1 - (intOf i).toNat)
              case atStart => exact ⟨0, va, _, _, a, rfl, rfl, rfl, Nat.zero_le _, I, G1⟩
              case round =>
                clear I G1
                obtain ⟨j, vx, p, l, xs, rfl, rfl, rfl, hj, I, HL⟩ := hrel
                have kc0 : wr.cell? ⟨gh + 1, 1, none⟩ = some (.int .i64 n1) := (blk_cell I.out.cnt 1).trans rfl
                by_cases hlt : j < n1
                · have hl2 := HL.out
                  rw [show n1 - j = (n1 - (j + 1)) + 1 by omega, spec_l04Read.lr] at hl2
                  replace hl2 := Option.bind_eq_some_iff.mp hl2
                  obtain ⟨⟨o1, ty1, cl1, tl1, d1, x1, y1⟩, B1, hl2⟩ := hl2
                  have G1 := Aside0.mk B1
                  dsimp only at hl2
                  have HL2 := Aside0.mk hl2
                  clear B1 hl2 HL
                  have qlt : decide ((j : Int) < (n1 : Int)) = true := decide_eq_true (by omega)
                  have qlt2 : decide (j < n1) = true := decide_eq_true hlt
                  go_wp2_with fail
                  refine (spec_l04Record.calls k A0 c0 l0 p _ _ _ _ _ _ _ _ (Kd.C_below HR.out I.out.bel) hc0 G1.out).mono ?_
                  rintro e w3 ⟨rfl, hb⟩
                  have I1 := Aside0.mk (I.out.below hb)
                  clear hb I kc0 qlt qlt2
                  by_cases hy : y1 = 0
                  case neg =>
                    have hl2 := HL2.out
                    rw [if_neg hy] at hl2
                    simp only [Option.some.injEq, Prod.mk.injEq] at hl2
                    obtain ⟨rfl, rfl, rfl, rfl⟩ := hl2
                    have hr2 := HRE2.out
                    rw [if_neg (by simp)] at hr2
                    simp only [Option.some.injEq, Prod.mk.injEq] at hr2
                    obtain ⟨rfl, rfl, rfl, rfl, rfl, rfl⟩ := hr2
                    have hend := HEND.out
                    rw [if_neg (by simp)] at hend
                    simp only [readZ, Option.some.injEq, Prod.mk.injEq] at hend
                    obtain ⟨rfl, rfl, rfl, rfl, rfl, rfl, rfl, rfl, rfl, rfl, rfl, rfl, rfl, rfl, rfl, rfl, rfl⟩ := hend
                    have qy : (y1 != 0) = true := bne_iff_ne.mpr hy
                    clear hy
                    have I2 := Aside0.mk (I1.out.below (below_alloc (Below.refl _ _) (Obj.cells #[.string o1, .int .i64 ty1, .int .i64 cl1, .int .i64 tl1, .string d1] 53)))
                    go_wp2_with (first | ((with_reducible refine gate_store (t := 28) (p := 2) rfl ?_); refine wpList_store_row rfl 28 (.tmp 2) _ rfl w.heap.size (#[.int .i64 0, .bool false, .int .i64 0, .bool false, .bool false, .bool false, .bool false, .bool false, .bool false, .bool false, .int .i64 0, .slice none 0 0, .slice none 0 0, .slice none 0 0, .slice none 0 0]) rfl rfl _ _ (I2.out.res) ?hi ?ho ?h1 ?_; (case hi => kernel_rfl); (case ho => rfl); (case h1 => kernel_rfl)))
                    exact bodyPost_ret (results_ctt rfl _ _ w.heap.size 28 #[.int .i64 0, .bool false, .int .i64 0, .bool false, .bool false, .bool false, .bool false, .bool false, .bool false, .bool false, .int .i64 0, .slice none 0 0, .slice none 0 0, .slice none 0 0, .slice none 0 0] (0, 0) _ rfl (setRow_heap _ _ _ _ _ _ (I2.out.res)) Tryd.underlying28 rfl (by kernel_rfl)) rfl ⟨_, _, _, _, rfl, Kd.R_nil _ _ _ _ _, Kd.R_nil _ _ _ _ _, Kd.R_nil _ _ _ _ _, Kd.R_nil _ _ _ _ _, setRow_below (I2.out.bel) (Nat.le_refl _) _⟩
                  case pos =>
                    have hl2 := HL2.out
                    rw [if_pos hy] at hl2
                    subst hy
                    split at hl2
                    case isFalse => cases hl2
                    case isTrue hlen =>
                    clear HL2
                    have HL2 := Aside0.mk hl2
                    clear hl2
                    go_upto_region 33 with fail
                    have I2 := Aside0.mk (I1.out.below (below_alloc (Below.refl _ _) (Obj.cells #[.string o1, .int .i64 ty1, .int .i64 cl1, .int .i64 tl1, .string d1] 53)))
                    have RB := Aside0.mk (blk_new w3 (Obj.cells #[.string o1, .int .i64 ty1, .int .i64 cl1, .int .i64 tl1, .string d1] 53))
                    clear I1
                    generalize w3.alloc (Obj.cells #[.string o1, .int .i64 ty1, .int .i64 cl1, .int .i64 tl1, .string d1] 53) = w4 at *
                    generalize w3.heap.size = gr at *
                    have km : w4.cell? ⟨gm, 12, none⟩ = some vx := (blk_cell I2.out.msg 12).trans rfl
                    go_wp2_with (first | ((with_reducible refine gate_ (.load 53 (.tmp 18)) rfl ?_); refine wpList_load_row rfl 53 (.tmp 18) rfl gr rfl 53 _ _ _ RB.out Tryd.underlying53 rfl ?hi ?_; (case hi => kernel_rfl)) | (at_builtin; refine Kd.R_append k53 w.heap.size rfl (.tmp 122) (.tmp 124) 26 53 (.agg #[.string ⟨#[]⟩, .int .i64 0, .int .i64 0, .int .i64 0, .string ⟨#[]⟩]) 56 rfl Tryd.underlying26 (by kernel_rfl) rfl (by decide) (by omega) vx xs (⟨o1, ty1, cl1, tl1, d1⟩ : S53) [.string o1, .int .i64 ty1, .int .i64 cl1, .int .i64 tl1, .string d1] (fun k => some k ≠ vu.ownBlock ∧ some k ≠ ve.ownBlock) (fun _ => False) rfl rfl (k53_mkM _ _ _ _) (fun _ hk => hk.elim) (fun k hk => ⟨Kd.fresh_ok I2.out.ru k hk, Kd.fresh_ok I2.out.re k hk⟩) I2.out.ra I2.out.bel I2.out.bel.size (by omega) ?_; intro v1 w5 ho hb hg hat; obtain ⟨Av_, nv_, cv_, rfl⟩ : ∃ A n c, v1 = .slice A n c := (by obtain ⟨A, c, e⟩ := Kd.R_slice ho; exact ⟨A, _, c, e⟩); have kz := blk_grown I2.out.msg hg (Kd.R_ne I2.out.ra I2.out.msg (by decide)); have kc := (blk_cell kz 12).trans rfl; have kf := blk_frozen kz 12; have I3 := Aside0.mk (I2.out.appA ho hb hg hat); clear kz ho hb hg hat I2 RB km))
                    go_roundw
                    case rel => exact ⟨j + 1, _, _, _, xs ++ [⟨o1, ty1, cl1, tl1, d1⟩], rfl, rfl, by go_num, by omega, I3, HL2⟩
                    case measure => simp [intOf]; omega
                · have hl2 := HL.out
                  rw [show n1 - j = 0 by omega, spec_l04Read.lr] at hl2
                  simp only [Option.some.injEq, Prod.mk.injEq] at hl2
                  obtain ⟨rfl, rfl, rfl, rfl⟩ := hl2
                  have hr2 := HRE2.out
                  rw [if_pos rfl] at hr2
                  clear HRE2 HL
                  have HRE2 := Aside0.mk hr2
                  have qlt : decide ((j : Int) < (n1 : Int)) = false := decide_eq_false (by omega)
                  have qlt2 : decide (j < n1) = false := decide_eq_false hlt
                  have qlt3 : (j < n1) = False := eq_false hlt
                  go_wp2
                  go_roundw
                  case rel => exact ⟨2, vx, vu, ve, xs, u, e, p, l, rfl, rfl, (by first | rfl | go_num), by omega, by omega, I, HRE2⟩
                  case measure => simp [intOf]
            · skip
              have hr2 := HRE.out
              unfold spec_l04Read.rest at hr2
              replace hr2 := Option.bind_eq_some_iff.mp hr2
              obtain ⟨⟨okx, px, lx, ax⟩, B1, hr2⟩ := hr2
              have G1 := Aside0.mk B1
              have HRE2 := Aside0.mk hr2
              clear B1 hr2 HRE
              go_wp2
              obtain ⟨wo, rfl⟩ : ∃ wo : World, wo = wr := ⟨_, rfl⟩
              go_loopw [9, 10, 17] (fun x9 x10 i wr => ∃ (j : Nat) (vx : Value) (p l : Int) (xs : List (S53)), x9 = .int .i64 p ∧ x10 = .int .i64 l ∧ i = .int .i64 j ∧ j ≤ n2 ∧ Aside0 (MsgI w wr (fun _ => True) w.heap.size (gh + 1) gm #[.int .i64 0, .bool false, .int .i64 0, .bool false, .bool false, .bool false, .bool false, .bool false, .bool false, .bool false, .int .i64 0, .slice none 0 0, .slice none 0 0, .slice none 0 0, .slice none 0 0] (cntC n0 n1 n2 n3) (⟨t1, t2, t3, t4, t5, t6, t7, t8, t9, t10, t11⟩ : S24) vq va vx ve q a xs e) ∧ Aside0 (spec_l04Read.lr k l0 (n2 - j) p l xs = some (okx, px, lx, ax))) (fun _ _ i _ => n2 - (intOf i).toNat)
              case atStart => exact ⟨0, vu, _, _, u, rfl, rfl, rfl, Nat.zero_le _, I, G1⟩
              case round =>
                clear I G1
                obtain ⟨j, vx, p, l, xs, rfl, rfl, rfl, hj, I, HL⟩ := hrel
                have kc0 : wr.cell? ⟨gh + 1, 2, none⟩ = some (.int .i64 n2) := (blk_cell I.out.cnt 2).trans rfl
                by_cases hlt : j < n2
                · have hl2 := HL.out
                  rw [show n2 - j = (n2 - (j + 1)) + 1 by omega, spec_l04Read.lr] at hl2
                  replace hl2 := Option.bind_eq_some_iff.mp hl2
                  obtain ⟨⟨o1, ty1, cl1, tl1, d1, x1, y1⟩, B1, hl2⟩ := hl2
                  have G1 := Aside0.mk B1
                  dsimp only at hl2
                  have HL2 := Aside0.mk hl2
                  clear B1 hl2 HL
                  have qlt : decide ((j : Int) < (n2 : Int)) = true := decide_eq_true (by omega)
                  have qlt2 : decide (j < n2) = true := decide_eq_true hlt
                  go_wp2_with fail
                  refine (spec_l04Record.calls k A0 c0 l0 p _ _ _ _ _ _ _ _ (Kd.C_below HR.out I.out.bel) hc0 G1.out).mono ?_
                  rintro e w3 ⟨rfl, hb⟩
                  have I1 := Aside0.mk (I.out.below hb)
                  clear hb I kc0 qlt qlt2
                  by_cases hy : y1 = 0
                  case neg =>
                    have hl2 := HL2.out
                    rw [if_neg hy] at hl2
                    simp only [Option.some.injEq, Prod.mk.injEq] at hl2
                    obtain ⟨rfl, rfl, rfl, rfl⟩ := hl2
                    have hr2 := HRE2.out
                    rw [if_neg (by simp)] at hr2
                    simp only [Option.some.injEq, Prod.mk.injEq] at hr2
                    obtain ⟨rfl, rfl, rfl, rfl, rfl, rfl⟩ := hr2
                    have hend := HEND.out
                    rw [if_neg (by simp)] at hend
                    simp only [readZ, Option.some.injEq, Prod.mk.injEq] at hend
                    obtain ⟨rfl, rfl, rfl, rfl, rfl, rfl, rfl, rfl, rfl, rfl, rfl, rfl, rfl, rfl, rfl, rfl, rfl⟩ := hend
                    have qy : (y1 != 0) = true := bne_iff_ne.mpr hy
                    clear hy
                    have I2 := Aside0.mk (I1.out.below (below_alloc (Below.refl _ _) (Obj.cells #[.string o1, .int .i64 ty1, .int .i64 cl1, .int .i64 tl1, .string d1] 53)))
                    go_wp2_with (first | ((with_reducible refine gate_store (t := 28) (p := 2) rfl ?_); refine wpList_store_row rfl 28 (.tmp 2) _ rfl w.heap.size (#[.int .i64 0, .bool false, .int .i64 0, .bool false, .bool false, .bool false, .bool false, .bool false, .bool false, .bool false, .int .i64 0, .slice none 0 0, .slice none 0 0, .slice none 0 0, .slice none 0 0]) rfl rfl _ _ (I2.out.res) ?hi ?ho ?h1 ?_; (case hi => kernel_rfl); (case ho => rfl); (case h1 => kernel_rfl)))
                    exact bodyPost_ret (results_ctt rfl _ _ w.heap.size 28 #[.int .i64 0, .bool false, .int .i64 0, .bool false, .bool false, .bool false, .bool false, .bool false, .bool false, .bool false, .int .i64 0, .slice none 0 0, .slice none 0 0, .slice none 0 0, .slice none 0 0] (0, 0) _ rfl (setRow_heap _ _ _ _ _ _ (I2.out.res)) Tryd.underlying28 rfl (by kernel_rfl)) rfl ⟨_, _, _, _, rfl, Kd.R_nil _ _ _ _ _, Kd.R_nil _ _ _ _ _, Kd.R_nil _ _ _ _ _, Kd.R_nil _ _ _ _ _, setRow_below (I2.out.bel) (Nat.le_refl _) _⟩
                  case pos =>
                    have hl2 := HL2.out
                    rw [if_pos hy] at hl2
                    subst hy
                    split at hl2
                    case isFalse => cases hl2
                    case isTrue hlen =>
                    clear HL2
                    have HL2 := Aside0.mk hl2
                    clear hl2
                    go_upto_region 33 with fail
                    have I2 := Aside0.mk (I1.out.below (below_alloc (Below.refl _ _) (Obj.cells #[.string o1, .int .i64 ty1, .int .i64 cl1, .int .i64 tl1, .string d1] 53)))
                    have RB := Aside0.mk (blk_new w3 (Obj.cells #[.string o1, .int .i64 ty1, .int .i64 cl1, .int .i64 tl1, .string d1] 53))
                    clear I1
                    generalize w3.alloc (Obj.cells #[.string o1, .int .i64 ty1, .int .i64 cl1, .int .i64 tl1, .string d1] 53) = w4 at *
                    generalize w3.heap.size = gr at *
                    have km : w4.cell? ⟨gm, 13, none⟩ = some vx := (blk_cell I2.out.msg 13).trans rfl
                    go_wp2_with (first | ((with_reducible refine gate_ (.load 53 (.tmp 18)) rfl ?_); refine wpList_load_row rfl 53 (.tmp 18) rfl gr rfl 53 _ _ _ RB.out Tryd.underlying53 rfl ?hi ?_; (case hi => kernel_rfl)) | (at_builtin; refine Kd.R_append k53 w.heap.size rfl (.tmp 130) (.tmp 132) 26 53 (.agg #[.string ⟨#[]⟩, .int .i64 0, .int .i64 0, .int .i64 0, .string ⟨#[]⟩]) 56 rfl Tryd.underlying26 (by kernel_rfl) rfl (by decide) (by omega) vx xs (⟨o1, ty1, cl1, tl1, d1⟩ : S53) [.string o1, .int .i64 ty1, .int .i64 cl1, .int .i64 tl1, .string d1] (fun k => some k ≠ va.ownBlock ∧ some k ≠ ve.ownBlock) (fun _ => False) rfl rfl (k53_mkM _ _ _ _) (fun _ hk => hk.elim) (fun k hk => ⟨Kd.fresh_ok I2.out.ra k hk, Kd.fresh_ok I2.out.re k hk⟩) I2.out.ru I2.out.bel I2.out.bel.size (by omega) ?_; intro v1 w5 ho hb hg hat; obtain ⟨Av_, nv_, cv_, rfl⟩ : ∃ A n c, v1 = .slice A n c := (by obtain ⟨A, c, e⟩ := Kd.R_slice ho; exact ⟨A, _, c, e⟩); have kz := blk_grown I2.out.msg hg (Kd.R_ne I2.out.ru I2.out.msg (by decide)); have kc := (blk_cell kz 13).trans rfl; have kf := blk_frozen kz 13; have I3 := Aside0.mk (I2.out.appU ho hb hg hat); clear kz ho hb hg hat I2 RB km))
                    go_roundw
                    case rel => exact ⟨j + 1, _, _, _, xs ++ [⟨o1, ty1, cl1, tl1, d1⟩], rfl, rfl, by go_num, by omega, I3, HL2⟩
                    case measure => simp [intOf]; omega
                · have hl2 := HL.out
                  rw [show n2 - j = 0 by omega, spec_l04Read.lr] at hl2
                  simp only [Option.some.injEq, Prod.mk.injEq] at hl2
                  obtain ⟨rfl, rfl, rfl, rfl⟩ := hl2
                  have hr2 := HRE2.out
                  rw [if_pos rfl] at hr2
                  clear HRE2 HL
                  have HRE2 := Aside0.mk hr2
                  have qlt : decide ((j : Int) < (n2 : Int)) = false := decide_eq_false (by omega)
                  have qlt2 : decide (j < n2) = false := decide_eq_false hlt
                  have qlt3 : (j < n2) = False := eq_false hlt
                  go_wp2
                  go_roundw
                  case rel => exact ⟨3, va, vx, ve, a, xs, e, p, l, rfl, rfl, (by first | rfl | go_num), by omega, by omega, I, HRE2⟩
                  case measure => simp [intOf]
            · skip
              have hr2 := HRE.out
              unfold spec_l04Read.rest at hr2
              replace hr2 := Option.bind_eq_some_iff.mp hr2
              obtain ⟨⟨okx, px, lx, ax⟩, B1, hr2⟩ := hr2
              have G1 := Aside0.mk B1
              have HRE2 := Aside0.mk hr2
              clear B1 hr2 HRE
              go_wp2
              obtain ⟨wo, rfl⟩ : ∃ wo : World, wo = wr := ⟨_, rfl⟩
              go_loopw [9, 10, 17] (fun x9 x10 i wr => ∃ (j : Nat) (vx : Value) (p l : Int) (xs : List (S53)), x9 = .int .i64 p ∧ x10 = .int .i64 l ∧ i = .int .i64 j ∧ j ≤ n3 ∧ Aside0 (MsgI w wr (fun _ => True) w.heap.size (gh + 1) gm #[.int .i64 0, .bool false, .int .i64 0, .bool false, .bool false, .bool false, .bool false, .bool false, .bool false, .bool false, .int .i64 0, .slice none 0 0, .slice none 0 0, .slice none 0 0, .slice none 0 0] (cntC n0 n1 n2 n3) (⟨t1, t2, t3, t4, t5, t6, t7, t8, t9, t10, t11⟩ : S24) vq va vu vx q a u xs) ∧ Aside0 (spec_l04Read.lr k l0 (n3 - j) p l xs = some (okx, px, lx, ax))) (fun _ _ i _ => n3 - (intOf i).toNat)
              case atStart => exact ⟨0, ve, _, _, e, rfl, rfl, rfl, Nat.zero_le _, I, G1⟩
              case round =>
                clear I G1
                obtain ⟨j, vx, p, l, xs, rfl, rfl, rfl, hj, I, HL⟩ := hrel
                have kc0 : wr.cell? ⟨gh + 1, 3, none⟩ = some (.int .i64 n3) := (blk_cell I.out.cnt 3).trans rfl
                by_cases hlt : j < n3
                · have hl2 := HL.out
                  rw [show n3 - j = (n3 - (j + 1)) + 1 by omega, spec_l04Read.lr] at hl2
                  replace hl2 := Option.bind_eq_some_iff.mp hl2
                  obtain ⟨⟨o1, ty1, cl1, tl1, d1, x1, y1⟩, B1, hl2⟩ := hl2
                  have G1 := Aside0.mk B1
                  dsimp only at hl2
                  have HL2 := Aside0.mk hl2
                  clear B1 hl2 HL
                  have qlt : decide ((j : Int) < (n3 : Int)) = true := decide_eq_true (by omega)
                  have qlt2 : decide (j < n3) = true := decide_eq_true hlt
                  go_wp2_with fail
                  refine (spec_l04Record.calls k A0 c0 l0 p _ _ _ _ _ _ _ _ (Kd.C_below HR.out I.out.bel) hc0 G1.out).mono ?_
                  rintro e w3 ⟨rfl, hb⟩
                  have I1 := Aside0.mk (I.out.below hb)
                  clear hb I kc0 qlt qlt2
                  by_cases hy : y1 = 0
                  case neg =>
                    have hl2 := HL2.out
                    rw [if_neg hy] at hl2
                    simp only [Option.some.injEq, Prod.mk.injEq] at hl2
                    obtain ⟨rfl, rfl, rfl, rfl⟩ := hl2
                    have hr2 := HRE2.out
                    rw [if_neg (by simp)] at hr2
                    simp only [Option.some.injEq, Prod.mk.injEq] at hr2
                    obtain ⟨rfl, rfl, rfl, rfl, rfl, rfl⟩ := hr2
                    have hend := HEND.out
                    rw [if_neg (by simp)] at hend
                    simp only [readZ, Option.some.injEq, Prod.mk.injEq] at hend
                    obtain ⟨rfl, rfl, rfl, rfl, rfl, rfl, rfl, rfl, rfl, rfl, rfl, rfl, rfl, rfl, rfl, rfl, rfl⟩ := hend
                    have qy : (y1 != 0) = true := bne_iff_ne.mpr hy
                    clear hy
                    have I2 := Aside0.mk (I1.out.below (below_alloc (Below.refl _ _) (Obj.cells #[.string o1, .int .i64 ty1, .int .i64 cl1, .int .i64 tl1, .string d1] 53)))
                    go_wp2_with (first | ((with_reducible refine gate_store (t := 28) (p := 2) rfl ?_); refine wpList_store_row rfl 28 (.tmp 2) _ rfl w.heap.size (#[.int .i64 0, .bool false, .int .i64 0, .bool false, .bool false, .bool false, .bool false, .bool false, .bool false, .bool false, .int .i64 0, .slice none 0 0, .slice none 0 0, .slice none 0 0, .slice none 0 0]) rfl rfl _ _ (I2.out.res) ?hi ?ho ?h1 ?_; (case hi => kernel_rfl); (case ho => rfl); (case h1 => kernel_rfl)))
                    exact bodyPost_ret (results_ctt rfl _ _ w.heap.size 28 #[.int .i64 0, .bool false, .int .i64 0, .bool false, .bool false, .bool false, .bool false, .bool false, .bool false, .bool false, .int .i64 0, .slice none 0 0, .slice none 0 0, .slice none 0 0, .slice none 0 0] (0, 0) _ rfl (setRow_heap _ _ _ _ _ _ (I2.out.res)) Tryd.underlying28 rfl (by kernel_rfl)) rfl ⟨_, _, _, _, rfl, Kd.R_nil _ _ _ _ _, Kd.R_nil _ _ _ _ _, Kd.R_nil _ _ _ _ _, Kd.R_nil _ _ _ _ _, setRow_below (I2.out.bel) (Nat.le_refl _) _⟩
                  case pos =>
                    have hl2 := HL2.out
                    rw [if_pos hy] at hl2
                    subst hy
                    split at hl2
                    case isFalse => cases hl2
                    case isTrue hlen =>
                    clear HL2
                    have HL2 := Aside0.mk hl2
                    clear hl2
                    go_upto_region 33 with fail
                    have I2 := Aside0.mk (I1.out.below (below_alloc (Below.refl _ _) (Obj.cells #[.string o1, .int .i64 ty1, .int .i64 cl1, .int .i64 tl1, .string d1] 53)))
                    have RB := Aside0.mk (blk_new w3 (Obj.cells #[.string o1, .int .i64 ty1, .int .i64 cl1, .int .i64 tl1, .string d1] 53))
                    clear I1
                    generalize w3.alloc (Obj.cells #[.string o1, .int .i64 ty1, .int .i64 cl1, .int .i64 tl1, .string d1] 53) = w4 at *
                    generalize w3.heap.size = gr at *
                    have km : w4.cell? ⟨gm, 14, none⟩ = some vx := (blk_cell I2.out.msg 14).trans rfl
                    go_wp2_with (first | ((with_reducible refine gate_ (.load 53 (.tmp 18)) rfl ?_); refine wpList_load_row rfl 53 (.tmp 18) rfl gr rfl 53 _ _ _ RB.out Tryd.underlying53 rfl ?hi ?_; (case hi => kernel_rfl)) | (at_builtin; refine Kd.R_append k53 w.heap.size rfl (.tmp 138) (.tmp 140) 26 53 (.agg #[.string ⟨#[]⟩, .int .i64 0, .int .i64 0, .int .i64 0, .string ⟨#[]⟩]) 56 rfl Tryd.underlying26 (by kernel_rfl) rfl (by decide) (by omega) vx xs (⟨o1, ty1, cl1, tl1, d1⟩ : S53) [.string o1, .int .i64 ty1, .int .i64 cl1, .int .i64 tl1, .string d1] (fun k => some k ≠ va.ownBlock ∧ some k ≠ vu.ownBlock) (fun _ => False) rfl rfl (k53_mkM _ _ _ _) (fun _ hk => hk.elim) (fun k hk => ⟨Kd.fresh_ok I2.out.ra k hk, Kd.fresh_ok I2.out.ru k hk⟩) I2.out.re I2.out.bel I2.out.bel.size (by omega) ?_; intro v1 w5 ho hb hg hat; obtain ⟨Av_, nv_, cv_, rfl⟩ : ∃ A n c, v1 = .slice A n c := (by obtain ⟨A, c, e⟩ := Kd.R_slice ho; exact ⟨A, _, c, e⟩); have kz := blk_grown I2.out.msg hg (Kd.R_ne I2.out.re I2.out.msg (by decide)); have kc := (blk_cell kz 14).trans rfl; have kf := blk_frozen kz 14; have I3 := Aside0.mk (I2.out.appE ho hb hg hat); clear kz ho hb hg hat I2 RB km))
                    go_roundw
                    case rel => exact ⟨j + 1, _, _, _, xs ++ [⟨o1, ty1, cl1, tl1, d1⟩], rfl, rfl, by go_num, by omega, I3, HL2⟩
                    case measure => simp [intOf]; omega
                · have hl2 := HL.out
                  rw [show n3 - j = 0 by omega, spec_l04Read.lr] at hl2
                  simp only [Option.some.injEq, Prod.mk.injEq] at hl2
                  obtain ⟨rfl, rfl, rfl, rfl⟩ := hl2
                  have hr2 := HRE2.out
                  rw [if_pos rfl] at hr2
                  clear HRE2 HL
                  have HRE2 := Aside0.mk hr2
                  have qlt : decide ((j : Int) < (n3 : Int)) = false := decide_eq_false (by omega)
                  have qlt2 : decide (j < n3) = false := decide_eq_false hlt
                  have qlt3 : (j < n3) = False := eq_false hlt
                  go_wp2
                  go_roundw
                  case rel => exact ⟨4, va, vu, vx, a, u, xs, p, l, rfl, rfl, (by first | rfl | go_num), by omega, by omega, I, HRE2⟩
                  case measure => simp [intOf]
            · have hr2 : some (true, p, l, a, u, e) = some (okF, pF, lF, aF, uF, eF) := HRE.out
              simp only [Option.some.injEq, Prod.mk.injEq] at hr2
              obtain ⟨rfl, rfl, rfl, rfl, rfl, rfl⟩ := hr2
              have hend := HEND.out
              rw [if_pos rfl] at hend
              clear HRE HEND
              by_cases hp : p = (l0.length : Int)
              · rw [if_pos hp] at hend
                simp only [Option.some.injEq, Prod.mk.injEq] at hend
                obtain ⟨rfl, rfl, rfl, rfl, rfl, rfl, rfl, rfl, rfl, rfl, rfl, rfl, rfl, rfl, rfl, rfl, rfl⟩ := hend
                have qp : (p != (l0.length : Int)) = false := bne_eq_false_iff_eq.mpr hp
                obtain ⟨Aq, nq, cq, rfl⟩ : ∃ A n c, vq = .slice A n c := (by obtain ⟨A, c, e⟩ := Kd.R_slice I.out.rq; exact ⟨A, _, c, e⟩)
                obtain ⟨Aa, na, ca, rfl⟩ : ∃ A n c, va = .slice A n c := (by obtain ⟨A, c, e⟩ := Kd.R_slice I.out.ra; exact ⟨A, _, c, e⟩)
                obtain ⟨Au, nu, cu, rfl⟩ : ∃ A n c, vu = .slice A n c := (by obtain ⟨A, c, e⟩ := Kd.R_slice I.out.ru; exact ⟨A, _, c, e⟩)
                obtain ⟨Ae, ne, ce, rfl⟩ : ∃ A n c, ve = .slice A n c := (by obtain ⟨A, c, e⟩ := Kd.R_slice I.out.re; exact ⟨A, _, c, e⟩)
                clear hp
                go_wp2_with (first | ((with_reducible refine gate_ (.load 28 (.tmp 8)) rfl ?_); refine wpList_load_row rfl 28 (.tmp 8) rfl gm rfl 28 _ _ _ I.out.msg Tryd.underlying28 rfl ?hi ?_; (case hi => kernel_rfl)) | ((with_reducible refine gate_store (t := 28) (p := 2) rfl ?_); refine wpList_store_row rfl 28 (.tmp 2) _ rfl w.heap.size (msgC (⟨t1, t2, t3, t4, t5, t6, t7, t8, t9, t10, t11⟩ : S24) (.slice Aq nq cq) (.slice Aa na ca) (.slice Au nu cu) (.slice Ae ne ce)) rfl rfl _ _ (I.out.res) ?hi ?ho ?h1 ?_; (case hi => kernel_rfl); (case ho => rfl); (case h1 => kernel_rfl)))
                obtain ⟨z1, z2⟩ := I.out.ret (S := msgC (⟨t1, t2, t3, t4, t5, t6, t7, t8, t9, t10, t11⟩ : S24) (.slice Aq nq cq) (.slice Aa na ca) (.slice Au nu cu) (.slice Ae ne ce))
                obtain ⟨y1, y2, y3, y4⟩ := I.out.ret_rows (okq' := fun _ => True) (fun _ _ => trivial) (S := msgC (⟨t1, t2, t3, t4, t5, t6, t7, t8, t9, t10, t11⟩ : S24) (.slice Aq nq cq) (.slice Aa na ca) (.slice Au nu cu) (.slice Ae ne ce))
                exact bodyPost_ret (results_ctt rfl _ _ w.heap.size 28 (msgC (⟨t1, t2, t3, t4, t5, t6, t7, t8, t9, t10, t11⟩ : S24) (.slice Aq nq cq) (.slice Aa na ca) (.slice Au nu cu) (.slice Ae ne ce)) (0, 0) _ rfl z1 Tryd.underlying28 rfl (by kernel_rfl)) rfl ⟨_, _, _, _, rfl, y1, y2, y3, y4, z2⟩
              · rw [if_neg hp] at hend
                simp only [readZ, Option.some.injEq, Prod.mk.injEq] at hend
                obtain ⟨rfl, rfl, rfl, rfl, rfl, rfl, rfl, rfl, rfl, rfl, rfl, rfl, rfl, rfl, rfl, rfl, rfl⟩ := hend
                have qp : (p != (l0.length : Int)) = true := bne_iff_ne.mpr hp
                go_wp2_with (first | ((with_reducible refine gate_store (t := 28) (p := 2) rfl ?_); refine wpList_store_row rfl 28 (.tmp 2) _ rfl w.heap.size (#[.int .i64 0, .bool false, .int .i64 0, .bool false, .bool false, .bool false, .bool false, .bool false, .bool false, .bool false, .int .i64 0, .slice none 0 0, .slice none 0 0, .slice none 0 0, .slice none 0 0]) rfl rfl _ _ (I.out.res) ?hi ?ho ?h1 ?_; (case hi => kernel_rfl); (case ho => rfl); (case h1 => kernel_rfl)))
                exact bodyPost_ret (results_ctt rfl _ _ w.heap.size 28 #[.int .i64 0, .bool false, .int .i64 0, .bool false, .bool false, .bool false, .bool false, .bool false, .bool false, .bool false, .int .i64 0, .slice none 0 0, .slice none 0 0, .slice none 0 0, .slice none 0 0] (0, 0) _ rfl (setRow_heap _ _ _ _ _ _ (I.out.res)) Tryd.underlying28 rfl (by kernel_rfl)) rfl ⟨_, _, _, _, rfl, Kd.R_nil _ _ _ _ _, Kd.R_nil _ _ _ _ _, Kd.R_nil _ _ _ _ _, Kd.R_nil _ _ _ _ _, setRow_below (I.out.bel) (Nat.le_refl _) _⟩

end Go.Proofs.YtcamchdenjpmhaaDoor.F
namespace Go.Proofs.YtcamchdenjpmhaaDoor.F
open Go Go.Shelf Go.RowKit Go.Proofs.YtcamchdenjpmhaaDoorW.PrintWords Go.Proofs.YtcamchdenjpmhaaDoorW.PrintLast Go.Proofs.YtcamchdenjpmhaaDoorW.PrintMore
attribute [local go_sem] max2_int min2_int max_two min_two max_three min_three max_four min_four   -- for this text's walks alone
set_option linter.unusedVariables false
set_option linter.unusedSimpArgs false

/-! ### spec_Decode: function 4 -/
def spec_Decode.f (k : Nat) (l0 : List Int) : Option (Int × Bool × Int × Bool × Bool × Bool × Bool × Bool × Bool × Bool × Int × (List (S47)) × (List (S53)) × (List (S53)) × (List (S53)) × Int) := (spec_l04Read.f k l0).bind fun bt102 => (some (bt102.1, bt102.2.1, bt102.2.2.1, bt102.2.2.2.1, bt102.2.2.2.2.1, bt102.2.2.2.2.2.1, bt102.2.2.2.2.2.2.1, bt102.2.2.2.2.2.2.2.1, bt102.2.2.2.2.2.2.2.2.1, bt102.2.2.2.2.2.2.2.2.2.1, bt102.2.2.2.2.2.2.2.2.2.2.1, bt102.2.2.2.2.2.2.2.2.2.2.2.1, bt102.2.2.2.2.2.2.2.2.2.2.2.2.1, bt102.2.2.2.2.2.2.2.2.2.2.2.2.2.1, bt102.2.2.2.2.2.2.2.2.2.2.2.2.2.2.1, bt102.2.2.2.2.2.2.2.2.2.2.2.2.2.2.2.2))
theorem spec_Decode.mono : ∀ a0 k, LeO (spec_Decode.f k a0) (spec_Decode.f (k + 1) a0) := by
  intro a0 k
  unfold spec_Decode.f
  repeat' first
      | (with_reducible exact spec_l04Read.mono _ _)
      | (with_reducible exact LeO.refl _)
      | (with_reducible exact LeO.none _)
      | (with_reducible refine LeO.ite ?_ ?_)
      | (with_reducible refine LeO.bind ?_ (fun _ => ?_))
      | exact spec_l04Read.mono _ _
      | exact LeO.none _
      | refine LeO.ite ?_ ?_
      | refine LeO.bind ?_ (fun _ => ?_)
set_option maxHeartbeats 8000000 in
set_option maxRecDepth 100000 in
theorem spec_Decode.calls (k : Nat) (A0 : Option Addr) (c0 : Nat) (l0 : List Int) (r1 : Int) (r2 : Bool) (r3 : Int) (r4 : Bool) (r5 : Bool) (r6 : Bool) (r7 : Bool) (r8 : Bool) (r9 : Bool) (r10 : Bool) (r11 : Int) (r12 : List (S47)) (r13 : List (S53)) (r14 : List (S53)) (r15 : List (S53)) (r16 : Int) (w : World) (hr0 : Kd.C (Kd.int .u8) w A0 l0.length l0) (hc0 : l0.length ≤ c0) (h : spec_Decode.f k l0 = some (r1, r2, r3, r4, r5, r6, r7, r8, r9, r10, r11, r12, r13, r14, r15, r16)) :
    Calls Tryd.prog 4 #[.slice A0 l0.length c0] w fun e w' => ∃ v11_ v12_ v13_ v14_ : Value, e = .returned (.tuple #[.agg #[.int .i64 r1, .bool r2, .int .i64 r3, .bool r4, .bool r5, .bool r6, .bool r7, .bool r8, .bool r9, .bool r10, .int .i64 r11, v11_, v12_, v13_, v14_], .int .i64 r16]) ∧ Kd.R k47 47 w' w.heap.size (fun _ => True) v11_ r12 ∧ Kd.R k53 53 w' w.heap.size (fun k_ => some k_ ≠ (v13_ : Value).ownBlock ∧ some k_ ≠ (v14_ : Value).ownBlock) v12_ r13 ∧ Kd.R k53 53 w' w.heap.size (fun k_ => some k_ ≠ (v12_ : Value).ownBlock ∧ some k_ ≠ (v14_ : Value).ownBlock) v13_ r14 ∧ Kd.R k53 53 w' w.heap.size (fun k_ => some k_ ≠ (v12_ : Value).ownBlock ∧ some k_ ≠ (v13_ : Value).ownBlock) v14_ r15 ∧ Below w.heap.size w w' := by
  have hu28 := Tryd.underlying28
  have HR0 := Aside0.mk hr0
  have HC0 := Aside0.mk hc0
  clear hr0 hc0
  have HB := Aside0.mk (Below.refl w.heap.size w)
  have H : ((spec_l04Read.f k l0).bind fun bt102 => (some (bt102.1, bt102.2.1, bt102.2.2.1, bt102.2.2.2.1, bt102.2.2.2.2.1, bt102.2.2.2.2.2.1, bt102.2.2.2.2.2.2.1, bt102.2.2.2.2.2.2.2.1, bt102.2.2.2.2.2.2.2.2.1, bt102.2.2.2.2.2.2.2.2.2.1, bt102.2.2.2.2.2.2.2.2.2.2.1, bt102.2.2.2.2.2.2.2.2.2.2.2.1, bt102.2.2.2.2.2.2.2.2.2.2.2.2.1, bt102.2.2.2.2.2.2.2.2.2.2.2.2.2.1, bt102.2.2.2.2.2.2.2.2.2.2.2.2.2.2.1, bt102.2.2.2.2.2.2.2.2.2.2.2.2.2.2.2.2))) = some (r1, r2, r3, r4, r5, r6, r7, r8, r9, r10, r11, r12, r13, r14, r15, r16) := h
  clear h
  replace H := Option.bind_eq_some_iff.mp H
  obtain ⟨⟨t102, t103, t104, t105, t106, t107, t108, t109, t110, t111, t112, t113, t116, t119, t122, t125, t126⟩, A20, H⟩ := H
  replace H : (some (t102, t103, t104, t105, t106, t107, t108, t109, t110, t111, t112, t113, t116, t119, t122, t126)) = some (r1, r2, r3, r4, r5, r6, r7, r8, r9, r10, r11, r12, r13, r14, r15, r16) := H
  have A2 := Aside0.mk A20
  clear A20
  simp only [Option.some.injEq, Prod.mk.injEq] at H
  obtain ⟨rfl, rfl, rfl, rfl, rfl, rfl, rfl, rfl, rfl, rfl, rfl, rfl, rfl, rfl, rfl, rfl⟩ := H
  go_enter Tryd.func4, Tryd.ntmps4
  go_wp2_with (first | ((with_reducible refine gate_dst (N := 2) rfl ?_); refine box_event ?hg (N := 2) ?hd (cs := #[.int .i64 0, .bool false, .int .i64 0, .bool false, .bool false, .bool false, .bool false, .bool false, .bool false, .bool false, .int .i64 0, .slice none 0 0, .slice none 0 0, .slice none 0 0, .slice none 0 0]) (t := 28) ?hr ?_; (case hd => rfl); (case hg => rfl); (case hr => first | (go_simp; done) | (go_simp; rfl)); intro gb101 hg w3 hbox hb; have n0_ := Aside0.mk (below_step (by repeat (first | (with_reducible first | exact HB.out | apply below_alloc | apply pw_below_drewN | apply below_drew1) | exact HB.out)) hb); have n1_ := Aside0.mk (hbox); have n2_ := Aside0.mk ((by rw [hg]; exact (below_size (by repeat (first | (with_reducible first | exact HB.out | apply below_alloc | apply pw_below_drewN | apply below_drew1) | exact HB.out))) : w.heap.size ≤ gb101)); have n3_ := Aside0.mk ((by rw [hg]; exact (below_size (by repeat (first | (with_reducible first | exact HB.out | apply below_alloc | apply pw_below_drewN | apply below_drew1) | exact HB.out))) : w.heap.size ≤ gb101)); clear HB; have HB := n0_; have BK101 := n1_; have GW101 := n2_; have GE101 := n3_; clear n0_ n1_ n2_ n3_; clear hb hbox hg) | ((with_reducible refine gate_callee (f := 12) rfl ?_); refine goesL_ (some 9) rfl rfl Tryd.func12 (by kernel_rfl) rfl #[.slice A0 l0.length c0] rfl (by (try simp only [List.map_toArray, List.map_cons, List.map_nil]); first | done | rfl | (simp only [List.length_drop, List.length_take]; rfl)) ?_; (with_reducible refine (spec_l04Read.calls k _ _ l0 t102 t103 t104 t105 t106 t107 t108 t109 t110 t111 t112 t113 t116 t119 t122 t125 t126 _ ?side1 ?side2 A2.out).mono ?_); (case side1 => repeat (first | exact (Kd.C_below HR0.out HB.out) | (with_reducible refine Kd.C_alloc ?_ _) | (with_reducible refine Kd.C_drewN ?_ _) | (with_reducible refine Kd.C_drew ?_))); (case side2 => exact HC0.out); rintro e w4 ⟨v114, v117, v120, v123, rfl, ho0, ho1, ho2, ho3, hb⟩; refine ⟨_, rfl, ?_⟩; have n0_ := Aside0.mk (Kd.R_lower ho0 (below_size (by repeat (first | (with_reducible first | exact HB.out | apply below_alloc | apply pw_below_drewN | apply below_drew1 | refine below_set ?_ GE101.out) | exact HB.out)))); have n1_ := Aside0.mk (Kd.R_lower ho1 (below_size (by repeat (first | (with_reducible first | exact HB.out | apply below_alloc | apply pw_below_drewN | apply below_drew1 | refine below_set ?_ GE101.out) | exact HB.out)))); have n2_ := Aside0.mk (Kd.R_lower ho2 (below_size (by repeat (first | (with_reducible first | exact HB.out | apply below_alloc | apply pw_below_drewN | apply below_drew1 | refine below_set ?_ GE101.out) | exact HB.out)))); have n3_ := Aside0.mk (Kd.R_lower ho3 (below_size (by repeat (first | (with_reducible first | exact HB.out | apply below_alloc | apply pw_below_drewN | apply below_drew1 | refine below_set ?_ GE101.out) | exact HB.out)))); have n4_ := Aside0.mk (blk_below (g := gb101) (o := .cells #[.int .i64 0, .bool false, .int .i64 0, .bool false, .bool false, .bool false, .bool false, .bool false, .bool false, .bool false, .int .i64 0, .slice none 0 0, .slice none 0 0, .slice none 0 0, .slice none 0 0] 28 (0, 0)) (by (with_reducible repeat (first | refine blk_drewN ?_ _ | refine blk_drew ?_ | refine blk_alloc ?_ _)); exact BK101.out) hb); have n5_ := Aside0.mk (below_step (by repeat (first | (with_reducible first | exact HB.out | apply below_alloc | apply pw_below_drewN | apply below_drew1 | refine below_set ?_ GE101.out) | exact HB.out)) hb); clear BK101; clear HB; have HO115 := n0_; have HO118 := n1_; have HO121 := n2_; have HO124 := n3_; have BK101 := n4_; have HB := n5_; clear n0_ n1_ n2_ n3_ n4_ n5_; (try clear hb); (try clear hb2); (try clear hk); (try clear hi); (try clear ho0); (try clear ho1); (try clear ho2); (try clear ho3)) | ((with_reducible refine gate_dst (N := 4) rfl ?_); refine box_event ?hg (N := 4) ?hd (cs := #[.int .i64 0, .bool false, .int .i64 0, .bool false, .bool false, .bool false, .bool false, .bool false, .bool false, .bool false, .int .i64 0, .slice none 0 0, .slice none 0 0, .slice none 0 0, .slice none 0 0]) (t := 28) ?hr ?_; (case hd => rfl); (case hg => rfl); (case hr => first | (go_simp; done) | (go_simp; rfl)); intro gb127 hg w5 hbox hb; have n0_ := Aside0.mk (Kd.R_below (by (with_reducible repeat (first | apply Kd.R_alloc | apply Kd.R_drewN | apply Kd.R_drew)); exact HO115.out) hb); have n1_ := Aside0.mk (Kd.R_below (by (with_reducible repeat (first | apply Kd.R_alloc | apply Kd.R_drewN | apply Kd.R_drew)); exact HO118.out) hb); have n2_ := Aside0.mk (Kd.R_below (by (with_reducible repeat (first | apply Kd.R_alloc | apply Kd.R_drewN | apply Kd.R_drew)); exact HO121.out) hb); have n3_ := Aside0.mk (Kd.R_below (by (with_reducible repeat (first | apply Kd.R_alloc | apply Kd.R_drewN | apply Kd.R_drew)); exact HO124.out) hb); have n4_ := Aside0.mk (blk_below (g := gb101) (o := .cells #[.int .i64 0, .bool false, .int .i64 0, .bool false, .bool false, .bool false, .bool false, .bool false, .bool false, .bool false, .int .i64 0, .slice none 0 0, .slice none 0 0, .slice none 0 0, .slice none 0 0] 28 (0, 0)) (by (with_reducible repeat (first | refine blk_drewN ?_ _ | refine blk_drew ?_ | refine blk_alloc ?_ _)); exact BK101.out) hb); have n5_ := Aside0.mk (below_step (by repeat (first | (with_reducible first | exact HB.out | apply below_alloc | apply pw_below_drewN | apply below_drew1 | refine below_set ?_ GE101.out) | exact HB.out)) hb); have n6_ := Aside0.mk (hbox); have n7_ := Aside0.mk ((by rw [hg]; exact (below_size (by repeat (first | (with_reducible first | exact HB.out | apply below_alloc | apply pw_below_drewN | apply below_drew1 | refine below_set ?_ GE101.out) | exact HB.out))) : w.heap.size ≤ gb127)); have n8_ := Aside0.mk ((by rw [hg]; exact (below_size (by repeat (first | (with_reducible first | exact HB.out | apply below_alloc | apply pw_below_drewN | apply below_drew1 | refine below_set ?_ GE101.out) | exact HB.out))) : w.heap.size ≤ gb127)); have n9_ := Aside0.mk ((by rw [hg]; exact Nat.ne_of_lt (blk_lt (g := gb101) (o := .cells #[.int .i64 0, .bool false, .int .i64 0, .bool false, .bool false, .bool false, .bool false, .bool false, .bool false, .bool false, .int .i64 0, .slice none 0 0, .slice none 0 0, .slice none 0 0, .slice none 0 0] 28 (0, 0)) (by (with_reducible repeat (first | refine blk_drewN ?_ _ | refine blk_drew ?_ | refine blk_alloc ?_ _)); exact BK101.out)) : gb101 ≠ gb127)); have n10_ := Aside0.mk ((by rw [hg]; exact Nat.ne_of_gt (blk_lt (g := gb101) (o := .cells #[.int .i64 0, .bool false, .int .i64 0, .bool false, .bool false, .bool false, .bool false, .bool false, .bool false, .bool false, .int .i64 0, .slice none 0 0, .slice none 0 0, .slice none 0 0, .slice none 0 0] 28 (0, 0)) (by (with_reducible repeat (first | refine blk_drewN ?_ _ | refine blk_drew ?_ | refine blk_alloc ?_ _)); exact BK101.out)) : gb127 ≠ gb101)); clear HO115; clear HO118; clear HO121; clear HO124; clear BK101; clear HB; have HO115 := n0_; have HO118 := n1_; have HO121 := n2_; have HO124 := n3_; have BK101 := n4_; have HB := n5_; have BK127 := n6_; have GW127 := n7_; have GE127 := n8_; have NB101_127 := n9_; have NB127_101 := n10_; clear n0_ n1_ n2_ n3_ n4_ n5_ n6_ n7_ n8_ n9_ n10_; clear hb hbox hg; have hnb6 := NB127_101.out; have hnc6 := NB101_127.out; have hcz7_0 : w5.cell? ⟨gb127, 0, none⟩ = some (.int .i64 0) := (blk_cell BK127.out 0).trans rfl; have hcz7_1 : w5.cell? ⟨gb127, 1, none⟩ = some (.bool false) := (blk_cell BK127.out 1).trans rfl; have hcz7_2 : w5.cell? ⟨gb127, 2, none⟩ = some (.int .i64 0) := (blk_cell BK127.out 2).trans rfl; have hcz7_3 : w5.cell? ⟨gb127, 3, none⟩ = some (.bool false) := (blk_cell BK127.out 3).trans rfl; have hcz7_4 : w5.cell? ⟨gb127, 4, none⟩ = some (.bool false) := (blk_cell BK127.out 4).trans rfl; have hcz7_5 : w5.cell? ⟨gb127, 5, none⟩ = some (.bool false) := (blk_cell BK127.out 5).trans rfl; have hcz7_6 : w5.cell? ⟨gb127, 6, none⟩ = some (.bool false) := (blk_cell BK127.out 6).trans rfl; have hcz7_7 : w5.cell? ⟨gb127, 7, none⟩ = some (.bool false) := (blk_cell BK127.out 7).trans rfl; have hcz7_8 : w5.cell? ⟨gb127, 8, none⟩ = some (.bool false) := (blk_cell BK127.out 8).trans rfl; have hcz7_9 : w5.cell? ⟨gb127, 9, none⟩ = some (.bool false) := (blk_cell BK127.out 9).trans rfl; have hcz7_10 : w5.cell? ⟨gb127, 10, none⟩ = some (.int .i64 0) := (blk_cell BK127.out 10).trans rfl; have hcz7_11 : w5.cell? ⟨gb127, 11, none⟩ = some (.slice none 0 0) := (blk_cell BK127.out 11).trans rfl; have hcz7_12 : w5.cell? ⟨gb127, 12, none⟩ = some (.slice none 0 0) := (blk_cell BK127.out 12).trans rfl; have hcz7_13 : w5.cell? ⟨gb127, 13, none⟩ = some (.slice none 0 0) := (blk_cell BK127.out 13).trans rfl; have hcz7_14 : w5.cell? ⟨gb127, 14, none⟩ = some (.slice none 0 0) := (blk_cell BK127.out 14).trans rfl; have hfz7_0 := blk_frozen BK127.out 0; have hfz7_1 := blk_frozen BK127.out 1; have hfz7_2 := blk_frozen BK127.out 2; have hfz7_3 := blk_frozen BK127.out 3; have hfz7_4 := blk_frozen BK127.out 4; have hfz7_5 := blk_frozen BK127.out 5; have hfz7_6 := blk_frozen BK127.out 6; have hfz7_7 := blk_frozen BK127.out 7; have hfz7_8 := blk_frozen BK127.out 8; have hfz7_9 := blk_frozen BK127.out 9; have hfz7_10 := blk_frozen BK127.out 10; have hfz7_11 := blk_frozen BK127.out 11; have hfz7_12 := blk_frozen BK127.out 12; have hfz7_13 := blk_frozen BK127.out 13; have hfz7_14 := blk_frozen BK127.out 14; obtain ⟨Ao8, co8, eo8⟩ := Kd.R_slice HO115.out; subst eo8; obtain ⟨Ao9, co9, eo9⟩ := Kd.R_slice HO118.out; subst eo9; obtain ⟨Ao10, co10, eo10⟩ := Kd.R_slice HO121.out; subst eo10; obtain ⟨Ao11, co11, eo11⟩ := Kd.R_slice HO124.out; subst eo11; have hcz12_0 : w5.cell? ⟨gb101, 0, none⟩ = some (.int .i64 0) := (blk_cell BK101.out 0).trans rfl; have hcz12_1 : w5.cell? ⟨gb101, 1, none⟩ = some (.bool false) := (blk_cell BK101.out 1).trans rfl; have hcz12_2 : w5.cell? ⟨gb101, 2, none⟩ = some (.int .i64 0) := (blk_cell BK101.out 2).trans rfl; have hcz12_3 : w5.cell? ⟨gb101, 3, none⟩ = some (.bool false) := (blk_cell BK101.out 3).trans rfl; have hcz12_4 : w5.cell? ⟨gb101, 4, none⟩ = some (.bool false) := (blk_cell BK101.out 4).trans rfl; have hcz12_5 : w5.cell? ⟨gb101, 5, none⟩ = some (.bool false) := (blk_cell BK101.out 5).trans rfl; have hcz12_6 : w5.cell? ⟨gb101, 6, none⟩ = some (.bool false) := (blk_cell BK101.out 6).trans rfl; have hcz12_7 : w5.cell? ⟨gb101, 7, none⟩ = some (.bool false) := (blk_cell BK101.out 7).trans rfl; have hcz12_8 : w5.cell? ⟨gb101, 8, none⟩ = some (.bool false) := (blk_cell BK101.out 8).trans rfl; have hcz12_9 : w5.cell? ⟨gb101, 9, none⟩ = some (.bool false) := (blk_cell BK101.out 9).trans rfl; have hcz12_10 : w5.cell? ⟨gb101, 10, none⟩ = some (.int .i64 0) := (blk_cell BK101.out 10).trans rfl; have hcz12_11 : w5.cell? ⟨gb101, 11, none⟩ = some (.slice none 0 0) := (blk_cell BK101.out 11).trans rfl; have hcz12_12 : w5.cell? ⟨gb101, 12, none⟩ = some (.slice none 0 0) := (blk_cell BK101.out 12).trans rfl; have hcz12_13 : w5.cell? ⟨gb101, 13, none⟩ = some (.slice none 0 0) := (blk_cell BK101.out 13).trans rfl; have hcz12_14 : w5.cell? ⟨gb101, 14, none⟩ = some (.slice none 0 0) := (blk_cell BK101.out 14).trans rfl; have hfz12_0 := blk_frozen BK101.out 0; have hfz12_1 := blk_frozen BK101.out 1; have hfz12_2 := blk_frozen BK101.out 2; have hfz12_3 := blk_frozen BK101.out 3; have hfz12_4 := blk_frozen BK101.out 4; have hfz12_5 := blk_frozen BK101.out 5; have hfz12_6 := blk_frozen BK101.out 6; have hfz12_7 := blk_frozen BK101.out 7; have hfz12_8 := blk_frozen BK101.out 8; have hfz12_9 := blk_frozen BK101.out 9; have hfz12_10 := blk_frozen BK101.out 10; have hfz12_11 := blk_frozen BK101.out 11; have hfz12_12 := blk_frozen BK101.out 12; have hfz12_13 := blk_frozen BK101.out 13; have hfz12_14 := blk_frozen BK101.out 14))
  refine bodyPost_ret (results_ct rfl _ _ gb101 28 #[.int .i64 t102, .bool t103, .int .i64 t104, .bool t105, .bool t106, .bool t107, .bool t108, .bool t109, .bool t110, .bool t111, .int .i64 t112, .slice Ao8 t113.length co8, .slice Ao9 t116.length co9, .slice Ao10 t119.length co10, .slice Ao11 t122.length co11] (0, 0) _ rfl (by (with_reducible repeat (first | refine blk_drewN ?_ _ | refine blk_drew ?_ | refine blk_alloc ?_ _)); refine blk_put (cs := #[.int .i64 t102, .bool t103, .int .i64 t104, .bool t105, .bool t106, .bool t107, .bool t108, .bool t109, .bool t110, .bool t111, .int .i64 t112, .slice Ao8 t113.length co8, .slice Ao9 t116.length co9, .slice Ao10 t119.length co10, .slice none 0 0]) ?_ 14 _ rfl; (with_reducible repeat (first | refine blk_drewN ?_ _ | refine blk_drew ?_ | refine blk_alloc ?_ _)); refine blk_put (cs := #[.int .i64 t102, .bool t103, .int .i64 t104, .bool t105, .bool t106, .bool t107, .bool t108, .bool t109, .bool t110, .bool t111, .int .i64 t112, .slice Ao8 t113.length co8, .slice Ao9 t116.length co9, .slice none 0 0, .slice none 0 0]) ?_ 13 _ rfl; (with_reducible repeat (first | refine blk_drewN ?_ _ | refine blk_drew ?_ | refine blk_alloc ?_ _)); refine blk_put (cs := #[.int .i64 t102, .bool t103, .int .i64 t104, .bool t105, .bool t106, .bool t107, .bool t108, .bool t109, .bool t110, .bool t111, .int .i64 t112, .slice Ao8 t113.length co8, .slice none 0 0, .slice none 0 0, .slice none 0 0]) ?_ 12 _ rfl; (with_reducible repeat (first | refine blk_drewN ?_ _ | refine blk_drew ?_ | refine blk_alloc ?_ _)); refine blk_put (cs := #[.int .i64 t102, .bool t103, .int .i64 t104, .bool t105, .bool t106, .bool t107, .bool t108, .bool t109, .bool t110, .bool t111, .int .i64 t112, .slice none 0 0, .slice none 0 0, .slice none 0 0, .slice none 0 0]) ?_ 11 _ rfl; (with_reducible repeat (first | refine blk_drewN ?_ _ | refine blk_drew ?_ | refine blk_alloc ?_ _)); refine blk_put (cs := #[.int .i64 t102, .bool t103, .int .i64 t104, .bool t105, .bool t106, .bool t107, .bool t108, .bool t109, .bool t110, .bool t111, .int .i64 0, .slice none 0 0, .slice none 0 0, .slice none 0 0, .slice none 0 0]) ?_ 10 _ rfl; (with_reducible repeat (first | refine blk_drewN ?_ _ | refine blk_drew ?_ | refine blk_alloc ?_ _)); refine blk_put (cs := #[.int .i64 t102, .bool t103, .int .i64 t104, .bool t105, .bool t106, .bool t107, .bool t108, .bool t109, .bool t110, .bool false, .int .i64 0, .slice none 0 0, .slice none 0 0, .slice none 0 0, .slice none 0 0]) ?_ 9 _ rfl; (with_reducible repeat (first | refine blk_drewN ?_ _ | refine blk_drew ?_ | refine blk_alloc ?_ _)); refine blk_put (cs := #[.int .i64 t102, .bool t103, .int .i64 t104, .bool t105, .bool t106, .bool t107, .bool t108, .bool t109, .bool false, .bool false, .int .i64 0, .slice none 0 0, .slice none 0 0, .slice none 0 0, .slice none 0 0]) ?_ 8 _ rfl; (with_reducible repeat (first | refine blk_drewN ?_ _ | refine blk_drew ?_ | refine blk_alloc ?_ _)); refine blk_put (cs := #[.int .i64 t102, .bool t103, .int .i64 t104, .bool t105, .bool t106, .bool t107, .bool t108, .bool false, .bool false, .bool false, .int .i64 0, .slice none 0 0, .slice none 0 0, .slice none 0 0, .slice none 0 0]) ?_ 7 _ rfl; (with_reducible repeat (first | refine blk_drewN ?_ _ | refine blk_drew ?_ | refine blk_alloc ?_ _)); refine blk_put (cs := #[.int .i64 t102, .bool t103, .int .i64 t104, .bool t105, .bool t106, .bool t107, .bool false, .bool false, .bool false, .bool false, .int .i64 0, .slice none 0 0, .slice none 0 0, .slice none 0 0, .slice none 0 0]) ?_ 6 _ rfl; (with_reducible repeat (first | refine blk_drewN ?_ _ | refine blk_drew ?_ | refine blk_alloc ?_ _)); refine blk_put (cs := #[.int .i64 t102, .bool t103, .int .i64 t104, .bool t105, .bool t106, .bool false, .bool false, .bool false, .bool false, .bool false, .int .i64 0, .slice none 0 0, .slice none 0 0, .slice none 0 0, .slice none 0 0]) ?_ 5 _ rfl; (with_reducible repeat (first | refine blk_drewN ?_ _ | refine blk_drew ?_ | refine blk_alloc ?_ _)); refine blk_put (cs := #[.int .i64 t102, .bool t103, .int .i64 t104, .bool t105, .bool false, .bool false, .bool false, .bool false, .bool false, .bool false, .int .i64 0, .slice none 0 0, .slice none 0 0, .slice none 0 0, .slice none 0 0]) ?_ 4 _ rfl; (with_reducible repeat (first | refine blk_drewN ?_ _ | refine blk_drew ?_ | refine blk_alloc ?_ _)); refine blk_put (cs := #[.int .i64 t102, .bool t103, .int .i64 t104, .bool false, .bool false, .bool false, .bool false, .bool false, .bool false, .bool false, .int .i64 0, .slice none 0 0, .slice none 0 0, .slice none 0 0, .slice none 0 0]) ?_ 3 _ rfl; (with_reducible repeat (first | refine blk_drewN ?_ _ | refine blk_drew ?_ | refine blk_alloc ?_ _)); refine blk_put (cs := #[.int .i64 t102, .bool t103, .int .i64 0, .bool false, .bool false, .bool false, .bool false, .bool false, .bool false, .bool false, .int .i64 0, .slice none 0 0, .slice none 0 0, .slice none 0 0, .slice none 0 0]) ?_ 2 _ rfl; (with_reducible repeat (first | refine blk_drewN ?_ _ | refine blk_drew ?_ | refine blk_alloc ?_ _)); refine blk_put (cs := #[.int .i64 t102, .bool false, .int .i64 0, .bool false, .bool false, .bool false, .bool false, .bool false, .bool false, .bool false, .int .i64 0, .slice none 0 0, .slice none 0 0, .slice none 0 0, .slice none 0 0]) ?_ 1 _ rfl; (with_reducible repeat (first | refine blk_drewN ?_ _ | refine blk_drew ?_ | refine blk_alloc ?_ _)); refine blk_put (cs := #[.int .i64 0, .bool false, .int .i64 0, .bool false, .bool false, .bool false, .bool false, .bool false, .bool false, .bool false, .int .i64 0, .slice none 0 0, .slice none 0 0, .slice none 0 0, .slice none 0 0]) ?_ 0 _ rfl; (with_reducible repeat (first | refine blk_drewN ?_ _ | refine blk_drew ?_ | refine blk_alloc ?_ _)); refine blk_far ?_ NB101_127.out _; (with_reducible repeat (first | refine blk_drewN ?_ _ | refine blk_drew ?_ | refine blk_alloc ?_ _)); refine blk_far ?_ NB101_127.out _; (with_reducible repeat (first | refine blk_drewN ?_ _ | refine blk_drew ?_ | refine blk_alloc ?_ _)); refine blk_far ?_ NB101_127.out _; (with_reducible repeat (first | refine blk_drewN ?_ _ | refine blk_drew ?_ | refine blk_alloc ?_ _)); refine blk_far ?_ NB101_127.out _; (with_reducible repeat (first | refine blk_drewN ?_ _ | refine blk_drew ?_ | refine blk_alloc ?_ _)); refine blk_far ?_ NB101_127.out _; (with_reducible repeat (first | refine blk_drewN ?_ _ | refine blk_drew ?_ | refine blk_alloc ?_ _)); refine blk_far ?_ NB101_127.out _; (with_reducible repeat (first | refine blk_drewN ?_ _ | refine blk_drew ?_ | refine blk_alloc ?_ _)); refine blk_far ?_ NB101_127.out _; (with_reducible repeat (first | refine blk_drewN ?_ _ | refine blk_drew ?_ | refine blk_alloc ?_ _)); refine blk_far ?_ NB101_127.out _; (with_reducible repeat (first | refine blk_drewN ?_ _ | refine blk_drew ?_ | refine blk_alloc ?_ _)); refine blk_far ?_ NB101_127.out _; (with_reducible repeat (first | refine blk_drewN ?_ _ | refine blk_drew ?_ | refine blk_alloc ?_ _)); refine blk_far ?_ NB101_127.out _; (with_reducible repeat (first | refine blk_drewN ?_ _ | refine blk_drew ?_ | refine blk_alloc ?_ _)); refine blk_far ?_ NB101_127.out _; (with_reducible repeat (first | refine blk_drewN ?_ _ | refine blk_drew ?_ | refine blk_alloc ?_ _)); refine blk_far ?_ NB101_127.out _; (with_reducible repeat (first | refine blk_drewN ?_ _ | refine blk_drew ?_ | refine blk_alloc ?_ _)); refine blk_far ?_ NB101_127.out _; (with_reducible repeat (first | refine blk_drewN ?_ _ | refine blk_drew ?_ | refine blk_alloc ?_ _)); refine blk_far ?_ NB101_127.out _; (with_reducible repeat (first | refine blk_drewN ?_ _ | refine blk_drew ?_ | refine blk_alloc ?_ _)); refine blk_far ?_ NB101_127.out _; (with_reducible repeat (first | refine blk_drewN ?_ _ | refine blk_drew ?_ | refine blk_alloc ?_ _)); exact BK101.out) Tryd.underlying28 rfl (by kernel_rfl)) rfl ?_
  exact ⟨_, _, _, _, by first | rfl | (simp [errW_none, errW_some] <;> rfl) | (simp [*, errW_none, errW_some] <;> rfl), by (with_reducible repeat (first | apply Kd.R_alloc | apply Kd.R_drewN | apply Kd.R_drew)); exact Kd.R_mono (Kd.R_far (p := ⟨gb101, 14, none⟩) (Kd.R_far (p := ⟨gb101, 13, none⟩) (Kd.R_far (p := ⟨gb101, 12, none⟩) (Kd.R_far (p := ⟨gb101, 11, none⟩) (Kd.R_far (p := ⟨gb101, 10, none⟩) (Kd.R_far (p := ⟨gb101, 9, none⟩) (Kd.R_far (p := ⟨gb101, 8, none⟩) (Kd.R_far (p := ⟨gb101, 7, none⟩) (Kd.R_far (p := ⟨gb101, 6, none⟩) (Kd.R_far (p := ⟨gb101, 5, none⟩) (Kd.R_far (p := ⟨gb101, 4, none⟩) (Kd.R_far (p := ⟨gb101, 3, none⟩) (Kd.R_far (p := ⟨gb101, 2, none⟩) (Kd.R_far (p := ⟨gb101, 1, none⟩) (Kd.R_far (p := ⟨gb101, 0, none⟩) (Kd.R_far (p := ⟨gb127, 14, none⟩) (Kd.R_far (p := ⟨gb127, 13, none⟩) (Kd.R_far (p := ⟨gb127, 12, none⟩) (Kd.R_far (p := ⟨gb127, 11, none⟩) (Kd.R_far (p := ⟨gb127, 10, none⟩) (Kd.R_far (p := ⟨gb127, 9, none⟩) (Kd.R_far (p := ⟨gb127, 8, none⟩) (Kd.R_far (p := ⟨gb127, 7, none⟩) (Kd.R_far (p := ⟨gb127, 6, none⟩) (Kd.R_far (p := ⟨gb127, 5, none⟩) (Kd.R_far (p := ⟨gb127, 4, none⟩) (Kd.R_far (p := ⟨gb127, 3, none⟩) (Kd.R_far (p := ⟨gb127, 2, none⟩) (Kd.R_far (p := ⟨gb127, 1, none⟩) (Kd.R_far (p := ⟨gb127, 0, none⟩) (Kd.R_types (Kd.R_types HO115.out BK127.out (by decide)) BK101.out (by decide)) (fun _ hk => hk.1.2) (.int .i64 t102)) (fun _ hk => hk.1.2) (.bool t103)) (fun _ hk => hk.1.2) (.int .i64 t104)) (fun _ hk => hk.1.2) (.bool t105)) (fun _ hk => hk.1.2) (.bool t106)) (fun _ hk => hk.1.2) (.bool t107)) (fun _ hk => hk.1.2) (.bool t108)) (fun _ hk => hk.1.2) (.bool t109)) (fun _ hk => hk.1.2) (.bool t110)) (fun _ hk => hk.1.2) (.bool t111)) (fun _ hk => hk.1.2) (.int .i64 t112)) (fun _ hk => hk.1.2) (.slice Ao8 t113.length co8)) (fun _ hk => hk.1.2) (.slice Ao9 t116.length co9)) (fun _ hk => hk.1.2) (.slice Ao10 t119.length co10)) (fun _ hk => hk.1.2) (.slice Ao11 t122.length co11)) (fun _ hk => hk.2) (.int .i64 t102)) (fun _ hk => hk.2) (.bool t103)) (fun _ hk => hk.2) (.int .i64 t104)) (fun _ hk => hk.2) (.bool t105)) (fun _ hk => hk.2) (.bool t106)) (fun _ hk => hk.2) (.bool t107)) (fun _ hk => hk.2) (.bool t108)) (fun _ hk => hk.2) (.bool t109)) (fun _ hk => hk.2) (.bool t110)) (fun _ hk => hk.2) (.bool t111)) (fun _ hk => hk.2) (.int .i64 t112)) (fun _ hk => hk.2) (.slice Ao8 t113.length co8)) (fun _ hk => hk.2) (.slice Ao9 t116.length co9)) (fun _ hk => hk.2) (.slice Ao10 t119.length co10)) (fun _ hk => hk.2) (.slice Ao11 t122.length co11)) (fun _ hk => trivial), by (with_reducible repeat (first | apply Kd.R_alloc | apply Kd.R_drewN | apply Kd.R_drew)); exact Kd.R_mono (Kd.R_far (p := ⟨gb101, 14, none⟩) (Kd.R_far (p := ⟨gb101, 13, none⟩) (Kd.R_far (p := ⟨gb101, 12, none⟩) (Kd.R_far (p := ⟨gb101, 11, none⟩) (Kd.R_far (p := ⟨gb101, 10, none⟩) (Kd.R_far (p := ⟨gb101, 9, none⟩) (Kd.R_far (p := ⟨gb101, 8, none⟩) (Kd.R_far (p := ⟨gb101, 7, none⟩) (Kd.R_far (p := ⟨gb101, 6, none⟩) (Kd.R_far (p := ⟨gb101, 5, none⟩) (Kd.R_far (p := ⟨gb101, 4, none⟩) (Kd.R_far (p := ⟨gb101, 3, none⟩) (Kd.R_far (p := ⟨gb101, 2, none⟩) (Kd.R_far (p := ⟨gb101, 1, none⟩) (Kd.R_far (p := ⟨gb101, 0, none⟩) (Kd.R_far (p := ⟨gb127, 14, none⟩) (Kd.R_far (p := ⟨gb127, 13, none⟩) (Kd.R_far (p := ⟨gb127, 12, none⟩) (Kd.R_far (p := ⟨gb127, 11, none⟩) (Kd.R_far (p := ⟨gb127, 10, none⟩) (Kd.R_far (p := ⟨gb127, 9, none⟩) (Kd.R_far (p := ⟨gb127, 8, none⟩) (Kd.R_far (p := ⟨gb127, 7, none⟩) (Kd.R_far (p := ⟨gb127, 6, none⟩) (Kd.R_far (p := ⟨gb127, 5, none⟩) (Kd.R_far (p := ⟨gb127, 4, none⟩) (Kd.R_far (p := ⟨gb127, 3, none⟩) (Kd.R_far (p := ⟨gb127, 2, none⟩) (Kd.R_far (p := ⟨gb127, 1, none⟩) (Kd.R_far (p := ⟨gb127, 0, none⟩) (Kd.R_types (Kd.R_types HO118.out BK127.out (by decide)) BK101.out (by decide)) (fun _ hk => hk.1.2) (.int .i64 t102)) (fun _ hk => hk.1.2) (.bool t103)) (fun _ hk => hk.1.2) (.int .i64 t104)) (fun _ hk => hk.1.2) (.bool t105)) (fun _ hk => hk.1.2) (.bool t106)) (fun _ hk => hk.1.2) (.bool t107)) (fun _ hk => hk.1.2) (.bool t108)) (fun _ hk => hk.1.2) (.bool t109)) (fun _ hk => hk.1.2) (.bool t110)) (fun _ hk => hk.1.2) (.bool t111)) (fun _ hk => hk.1.2) (.int .i64 t112)) (fun _ hk => hk.1.2) (.slice Ao8 t113.length co8)) (fun _ hk => hk.1.2) (.slice Ao9 t116.length co9)) (fun _ hk => hk.1.2) (.slice Ao10 t119.length co10)) (fun _ hk => hk.1.2) (.slice Ao11 t122.length co11)) (fun _ hk => hk.2) (.int .i64 t102)) (fun _ hk => hk.2) (.bool t103)) (fun _ hk => hk.2) (.int .i64 t104)) (fun _ hk => hk.2) (.bool t105)) (fun _ hk => hk.2) (.bool t106)) (fun _ hk => hk.2) (.bool t107)) (fun _ hk => hk.2) (.bool t108)) (fun _ hk => hk.2) (.bool t109)) (fun _ hk => hk.2) (.bool t110)) (fun _ hk => hk.2) (.bool t111)) (fun _ hk => hk.2) (.int .i64 t112)) (fun _ hk => hk.2) (.slice Ao8 t113.length co8)) (fun _ hk => hk.2) (.slice Ao9 t116.length co9)) (fun _ hk => hk.2) (.slice Ao10 t119.length co10)) (fun _ hk => hk.2) (.slice Ao11 t122.length co11)) (fun _ hk => ⟨hk.1.1.1, hk.1.1.2⟩), by (with_reducible repeat (first | apply Kd.R_alloc | apply Kd.R_drewN | apply Kd.R_drew)); exact Kd.R_mono (Kd.R_far (p := ⟨gb101, 14, none⟩) (Kd.R_far (p := ⟨gb101, 13, none⟩) (Kd.R_far (p := ⟨gb101, 12, none⟩) (Kd.R_far (p := ⟨gb101, 11, none⟩) (Kd.R_far (p := ⟨gb101, 10, none⟩) (Kd.R_far (p := ⟨gb101, 9, none⟩) (Kd.R_far (p := ⟨gb101, 8, none⟩) (Kd.R_far (p := ⟨gb101, 7, none⟩) (Kd.R_far (p := ⟨gb101, 6, none⟩) (Kd.R_far (p := ⟨gb101, 5, none⟩) (Kd.R_far (p := ⟨gb101, 4, none⟩) (Kd.R_far (p := ⟨gb101, 3, none⟩) (Kd.R_far (p := ⟨gb101, 2, none⟩) (Kd.R_far (p := ⟨gb101, 1, none⟩) (Kd.R_far (p := ⟨gb101, 0, none⟩) (Kd.R_far (p := ⟨gb127, 14, none⟩) (Kd.R_far (p := ⟨gb127, 13, none⟩) (Kd.R_far (p := ⟨gb127, 12, none⟩) (Kd.R_far (p := ⟨gb127, 11, none⟩) (Kd.R_far (p := ⟨gb127, 10, none⟩) (Kd.R_far (p := ⟨gb127, 9, none⟩) (Kd.R_far (p := ⟨gb127, 8, none⟩) (Kd.R_far (p := ⟨gb127, 7, none⟩) (Kd.R_far (p := ⟨gb127, 6, none⟩) (Kd.R_far (p := ⟨gb127, 5, none⟩) (Kd.R_far (p := ⟨gb127, 4, none⟩) (Kd.R_far (p := ⟨gb127, 3, none⟩) (Kd.R_far (p := ⟨gb127, 2, none⟩) (Kd.R_far (p := ⟨gb127, 1, none⟩) (Kd.R_far (p := ⟨gb127, 0, none⟩) (Kd.R_types (Kd.R_types HO121.out BK127.out (by decide)) BK101.out (by decide)) (fun _ hk => hk.1.2) (.int .i64 t102)) (fun _ hk => hk.1.2) (.bool t103)) (fun _ hk => hk.1.2) (.int .i64 t104)) (fun _ hk => hk.1.2) (.bool t105)) (fun _ hk => hk.1.2) (.bool t106)) (fun _ hk => hk.1.2) (.bool t107)) (fun _ hk => hk.1.2) (.bool t108)) (fun _ hk => hk.1.2) (.bool t109)) (fun _ hk => hk.1.2) (.bool t110)) (fun _ hk => hk.1.2) (.bool t111)) (fun _ hk => hk.1.2) (.int .i64 t112)) (fun _ hk => hk.1.2) (.slice Ao8 t113.length co8)) (fun _ hk => hk.1.2) (.slice Ao9 t116.length co9)) (fun _ hk => hk.1.2) (.slice Ao10 t119.length co10)) (fun _ hk => hk.1.2) (.slice Ao11 t122.length co11)) (fun _ hk => hk.2) (.int .i64 t102)) (fun _ hk => hk.2) (.bool t103)) (fun _ hk => hk.2) (.int .i64 t104)) (fun _ hk => hk.2) (.bool t105)) (fun _ hk => hk.2) (.bool t106)) (fun _ hk => hk.2) (.bool t107)) (fun _ hk => hk.2) (.bool t108)) (fun _ hk => hk.2) (.bool t109)) (fun _ hk => hk.2) (.bool t110)) (fun _ hk => hk.2) (.bool t111)) (fun _ hk => hk.2) (.int .i64 t112)) (fun _ hk => hk.2) (.slice Ao8 t113.length co8)) (fun _ hk => hk.2) (.slice Ao9 t116.length co9)) (fun _ hk => hk.2) (.slice Ao10 t119.length co10)) (fun _ hk => hk.2) (.slice Ao11 t122.length co11)) (fun _ hk => ⟨hk.1.1.1, hk.1.1.2⟩), by (with_reducible repeat (first | apply Kd.R_alloc | apply Kd.R_drewN | apply Kd.R_drew)); exact Kd.R_mono (Kd.R_far (p := ⟨gb101, 14, none⟩) (Kd.R_far (p := ⟨gb101, 13, none⟩) (Kd.R_far (p := ⟨gb101, 12, none⟩) (Kd.R_far (p := ⟨gb101, 11, none⟩) (Kd.R_far (p := ⟨gb101, 10, none⟩) (Kd.R_far (p := ⟨gb101, 9, none⟩) (Kd.R_far (p := ⟨gb101, 8, none⟩) (Kd.R_far (p := ⟨gb101, 7, none⟩) (Kd.R_far (p := ⟨gb101, 6, none⟩) (Kd.R_far (p := ⟨gb101, 5, none⟩) (Kd.R_far (p := ⟨gb101, 4, none⟩) (Kd.R_far (p := ⟨gb101, 3, none⟩) (Kd.R_far (p := ⟨gb101, 2, none⟩) (Kd.R_far (p := ⟨gb101, 1, none⟩) (Kd.R_far (p := ⟨gb101, 0, none⟩) (Kd.R_far (p := ⟨gb127, 14, none⟩) (Kd.R_far (p := ⟨gb127, 13, none⟩) (Kd.R_far (p := ⟨gb127, 12, none⟩) (Kd.R_far (p := ⟨gb127, 11, none⟩) (Kd.R_far (p := ⟨gb127, 10, none⟩) (Kd.R_far (p := ⟨gb127, 9, none⟩) (Kd.R_far (p := ⟨gb127, 8, none⟩) (Kd.R_far (p := ⟨gb127, 7, none⟩) (Kd.R_far (p := ⟨gb127, 6, none⟩) (Kd.R_far (p := ⟨gb127, 5, none⟩) (Kd.R_far (p := ⟨gb127, 4, none⟩) (Kd.R_far (p := ⟨gb127, 3, none⟩) (Kd.R_far (p := ⟨gb127, 2, none⟩) (Kd.R_far (p := ⟨gb127, 1, none⟩) (Kd.R_far (p := ⟨gb127, 0, none⟩) (Kd.R_types (Kd.R_types HO124.out BK127.out (by decide)) BK101.out (by decide)) (fun _ hk => hk.1.2) (.int .i64 t102)) (fun _ hk => hk.1.2) (.bool t103)) (fun _ hk => hk.1.2) (.int .i64 t104)) (fun _ hk => hk.1.2) (.bool t105)) (fun _ hk => hk.1.2) (.bool t106)) (fun _ hk => hk.1.2) (.bool t107)) (fun _ hk => hk.1.2) (.bool t108)) (fun _ hk => hk.1.2) (.bool t109)) (fun _ hk => hk.1.2) (.bool t110)) (fun _ hk => hk.1.2) (.bool t111)) (fun _ hk => hk.1.2) (.int .i64 t112)) (fun _ hk => hk.1.2) (.slice Ao8 t113.length co8)) (fun _ hk => hk.1.2) (.slice Ao9 t116.length co9)) (fun _ hk => hk.1.2) (.slice Ao10 t119.length co10)) (fun _ hk => hk.1.2) (.slice Ao11 t122.length co11)) (fun _ hk => hk.2) (.int .i64 t102)) (fun _ hk => hk.2) (.bool t103)) (fun _ hk => hk.2) (.int .i64 t104)) (fun _ hk => hk.2) (.bool t105)) (fun _ hk => hk.2) (.bool t106)) (fun _ hk => hk.2) (.bool t107)) (fun _ hk => hk.2) (.bool t108)) (fun _ hk => hk.2) (.bool t109)) (fun _ hk => hk.2) (.bool t110)) (fun _ hk => hk.2) (.bool t111)) (fun _ hk => hk.2) (.int .i64 t112)) (fun _ hk => hk.2) (.slice Ao8 t113.length co8)) (fun _ hk => hk.2) (.slice Ao9 t116.length co9)) (fun _ hk => hk.2) (.slice Ao10 t119.length co10)) (fun _ hk => hk.2) (.slice Ao11 t122.length co11)) (fun _ hk => ⟨hk.1.1.1, hk.1.1.2⟩), by repeat (first | (with_reducible first | exact HB.out | apply below_alloc | apply pw_below_drewN | apply below_drew1 | refine below_set ?_ GE101.out | refine below_set ?_ GE127.out) | exact HB.out)⟩

end Go.Proofs.YtcamchdenjpmhaaDoor.F
namespace Go.Proofs.YtcamchdenjpmhaaDoor.F
open Go Go.Shelf Go.RowKit Go.Proofs.YtcamchdenjpmhaaDoorW.PrintWords Go.Proofs.YtcamchdenjpmhaaDoorW.PrintLast Go.Proofs.YtcamchdenjpmhaaDoorW.PrintMore
attribute [local go_sem] max2_int min2_int max_two min_two max_three min_three max_four min_four   -- for this text's walks alone
set_option linter.unusedVariables false
set_option linter.unusedSimpArgs false

/-! ### laws_toByteS: function 5 -/
def laws_toByteS.l0 : Nat → List Int → List Int → Int → Option (List Int)
  | 0, _, _, _ => none
  | k + 1, x0, x3, x4 => if x4 < (x0.length : Int) then (if 0 ≤ x4 then (if x4 < (x3.length : Int) then (laws_toByteS.l0 k x0 (x3.set (x4 : Int).toNat (rd x0 x4)) (wrap64 (x4 + 1))) else (none)) else (none)) else (some x3)
def laws_toByteS.f (k : Nat) (l0 : List Int) : Option (List Int) := if 0 ≤ (l0.length : Int) then (if ((l0.length : Int) : Int).toNat ≤ 281474976710656 then (laws_toByteS.l0 k l0 (List.replicate ((l0.length : Int) : Int).toNat 0) 0) else (none)) else (none)
theorem laws_toByteS.mono_l : ∀ k, (∀ y0 y1 y2, LeO (laws_toByteS.l0 k y0 y1 y2) (laws_toByteS.l0 (k + 1) y0 y1 y2))
  | 0 => fun _ _ _ r h => by simp [laws_toByteS.l0] at h
  | k + 1 => by
    have ih0 := laws_toByteS.mono_l k
    · intro y0 y1 y2
      unfold laws_toByteS.l0
      repeat' first
      | (with_reducible exact ih0 _ _ _)
      | (with_reducible exact LeO.refl _)
      | (with_reducible exact LeO.none _)
      | (with_reducible refine LeO.ite ?_ ?_)
      | (with_reducible refine LeO.bind ?_ (fun _ => ?_))
      | exact ih0 _ _ _
      | exact LeO.none _
      | refine LeO.ite ?_ ?_
      | refine LeO.bind ?_ (fun _ => ?_)
theorem laws_toByteS.mono : ∀ a0 k, LeO (laws_toByteS.f k a0) (laws_toByteS.f (k + 1) a0) := by
  intro a0 k
  have ih0 := laws_toByteS.mono_l k
  unfold laws_toByteS.f
  repeat' first
      | (with_reducible exact ih0 _ _ _)
      | (with_reducible exact LeO.refl _)
      | (with_reducible exact LeO.none _)
      | (with_reducible refine LeO.ite ?_ ?_)
      | (with_reducible refine LeO.bind ?_ (fun _ => ?_))
      | exact ih0 _ _ _
      | exact LeO.none _
      | refine LeO.ite ?_ ?_
      | refine LeO.bind ?_ (fun _ => ?_)
set_option maxHeartbeats 8000000 in
set_option maxRecDepth 100000 in
theorem laws_toByteS.calls (k : Nat) (A0 : Option Addr) (c0 : Nat) (l0 : List Int) (r : List Int) (w : World) (hr0 : Kd.C (Kd.int .u8) w A0 l0.length l0) (hc0 : l0.length ≤ c0) (h : laws_toByteS.f k l0 = some r) :
    Calls Tryd.prog 5 #[.slice A0 l0.length c0] w fun e w' => ∃ v0_ : Value, e = .returned (v0_) ∧ Kd.R (Kd.int .u8) 5 w' w.heap.size (fun _ => True) v0_ r ∧ Below w.heap.size w w' := by
  have HR0 := Aside0.mk hr0
  have HC0 := Aside0.mk hc0
  clear hr0 hc0
  have HB := Aside0.mk (Below.refl w.heap.size w)
  have H : (if 0 ≤ (l0.length : Int) then (if ((l0.length : Int) : Int).toNat ≤ 281474976710656 then (laws_toByteS.l0 k l0 (List.replicate ((l0.length : Int) : Int).toNat 0) 0) else (none)) else (none)) = some r := h
  clear h
  by_cases c2 : 0 ≤ (l0.length : Int)
  · rw [if_pos c2] at H
    have c2b0 := eq_true c2
    have c2b1 : decide (0 ≤ (l0.length : Int)) = true := decide_eq_true c2
    clear c2
    by_cases c3 : ((l0.length : Int) : Int).toNat ≤ 281474976710656
    · rw [if_pos c3] at H
      have c3b0 := eq_true c3
      have c3b1 : decide (((l0.length : Int) : Int).toNat ≤ 281474976710656) = true := decide_eq_true c3
      clear c3
      obtain ⟨y101, hy101⟩ : ∃ y_ : List Int, y_ = (List.replicate ((l0.length : Int) : Int).toNat 0) := ⟨_, rfl⟩
      replace H : (laws_toByteS.l0 k l0 y101 0) = some r := by first | (rw [hy101]; with_reducible exact H) | (have H2_ := (Option.bind_some _ _).symm.trans H; rw [hy101]; with_reducible exact H2_) | (have H2_ := (Option.bind_some _ _).symm.trans H; with_reducible exact H2_) | with_reducible exact H | (rw [hy101]; exact H) | exact H
      have Ny101 := Aside0.mk hy101
      clear hy101
      have H' := Aside0.mk H
      clear H
      go_enter Tryd.func5, Tryd.ntmps5
      go_wp2_with (first | ((with_reducible refine gate_dst (N := 7) rfl ?_); refine Kd.R_make (Kd.int .u8) _ 5 rfl (N := 7) rfl 22 _ _ rfl (l0.length : Int) rfl rfl Tryd.underlying22 (.int .u8 0) 1 info5 rfl (by decide) (by omega) 0 (ok := fun _ => True) (okp := fun _ => True) rfl (fun _ hk => hk) trivial (of_decide_eq_true (by first | (with_reducible assumption) | assumption)) (Nat.le_trans (Nat.mul_le_mul_right _ (of_decide_eq_true (by first | (with_reducible assumption) | assumption) : (l0.length : Int).toNat ≤ 281474976710656)) (by omega)) (Below.refl _ _) (Nat.le_refl _) ?_; intro v102 w4 ho5 hb hg_ hnew_; clear hg_ hnew_; (first | rw [← Ny101.out] at ho5 | (simp only [Int.reduceToNat] at ho5; rw [← Ny101.out] at ho5)); have n0_ := Aside0.mk (Kd.R_lower ho5 (below_size (by repeat (first | (with_reducible first | exact HB.out | apply below_alloc | apply pw_below_drewN | apply below_drew1) | exact HB.out)))); have n1_ := Aside0.mk (below_step (by repeat (first | (with_reducible first | exact HB.out | apply below_alloc | apply pw_below_drewN | apply below_drew1) | exact HB.out)) hb); clear HB; have HO103 := n0_; have HB := n1_; clear n0_ n1_; clear hb ho5))
      go_loopg [4] k (fun kq v4 w' => ∃ (x3_1 : List Int) (x4_1 : Int), v4 = .int .i64 x4_1 ∧ Aside0 (laws_toByteS.l0 kq l0 x3_1 x4_1 = some r) ∧ Aside0 (kq ≤ k) ∧ Aside0 (Kd.R (Kd.int .u8) 5 w' w.heap.size (fun _ => True) v102 x3_1) ∧ Aside0 (Below w.heap.size w w'))
      case atStart => exact ⟨(y101), (0), (by first | rfl | (simp; done) | (simp [*]; done)), H', ⟨Nat.le_refl _⟩, ⟨by (with_reducible repeat (first | apply Kd.R_alloc | apply Kd.R_drewN | apply Kd.R_drew)); exact HO103.out⟩, ⟨by repeat (first | (with_reducible first | exact HB.out | apply below_alloc | apply pw_below_drewN | apply below_drew1) | exact HB.out)⟩⟩
      case round =>
        clear H'
        try clear c2
        try clear c2b0
        try clear c2b1
        try clear p2
        try clear c3
        try clear c3b0
        try clear c3b1
        try clear c5
        obtain ⟨x3_1, x4_1, rfl, HA, HK1, HO_3, HB⟩ := hrel
        cases gk with
        | zero => exact absurd HA.out (by simp [laws_toByteS.l0])
        | succ k1 =>
          have H := HA.out
          clear HA
          simp only [laws_toByteS.l0] at H
          by_cases c6 : x4_1 < (l0.length : Int)
          · rw [if_pos c6] at H
            have c6b0 : decide (x4_1 < (l0.length : Int)) = true := decide_eq_true c6
            clear c6
            by_cases c7 : 0 ≤ x4_1
            · rw [if_pos c7] at H
              have c7b0 : decide (0 ≤ x4_1) = true := decide_eq_true c7
              clear c7
              by_cases c8 : x4_1 < (x3_1.length : Int)
              · rw [if_pos c8] at H
                have c8b0 : decide (x4_1 < (x3_1.length : Int)) = true := decide_eq_true c8
                clear c8
                obtain ⟨y105, hy105⟩ : ∃ y_ : List Int, y_ = (x3_1.set (x4_1 : Int).toNat (rd l0 x4_1)) := ⟨_, rfl⟩
                replace H : (laws_toByteS.l0 k1 l0 y105 (wrap64 (x4_1 + 1))) = some r := by first | (rw [hy105]; with_reducible exact H) | (have H2_ := (Option.bind_some _ _).symm.trans H; rw [hy105]; with_reducible exact H2_) | (have H2_ := (Option.bind_some _ _).symm.trans H; with_reducible exact H2_) | with_reducible exact H | (rw [hy105]; exact H) | exact H
                have Ny105 := Aside0.mk hy105
                clear hy105
                have H' := Aside0.mk H
                clear H
                have p104 : 0 ≤ (x4_1 : Int) := of_decide_eq_true (by first | (with_reducible assumption) | assumption)
                have q104 : x4_1 < (l0.length : Int) := of_decide_eq_true (by first | (with_reducible assumption) | assumption)
                obtain ⟨ad104, e104, hx104_0⟩ := Kd.at_int HR0.out x4_1 p104 q104
                cases e104
                replace hx104_0 := (HB.out.cell (World.block_lt_of_cell? w _ hx104_0)).trans hx104_0
                replace p104 := eq_true p104
                replace q104 := eq_true q104
                have p9 : 0 ≤ (x4_1 : Int) := of_decide_eq_true (by first | (with_reducible assumption) | assumption)
                have q9 : (x4_1 : Int) < ((x3_1.length : Int) : Int) := of_decide_eq_true (by first | (with_reducible assumption) | assumption)
                obtain ⟨go9, co9, eo9, gb9, gl9, cl9, HG9⟩ := Kd.R_form HO_3.out (by omega)
                (first | cases eo9 | (injection eo9 with ea_ en_ ec_; (first | subst ea_ | (injection ea_ with ea_; subst ea_)); subst ec_; clear en_))
                have GB9 := Aside0.mk gb9
                have GG9 := Aside0.mk HG9
                clear gb9 gl9 HG9
                obtain ⟨hx9_0, hf9_0⟩ := Kd.R_celln 0 HO_3.out (x4_1 : Int) p9 q9
                replace p9 := eq_true p9
                replace q9 := eq_true q9
                have HP10 := Kd.R_putg HO_3.out (x4_1 : Int) (rd l0 x4_1)
                go_wp2_with (first | ((with_reducible refine gate_store (t := 5) (p := 20) rfl ?_); refine store_event (t := 5) (p := 20) (v := ?vo_w11) (w1 := (wr.setCell ⟨go9, (x4_1 : Int).toNat, none⟩ (.int .u8 (rd l0 x4_1)))) ?hg ?ho ?hn ?hr ?_; (case ho => rfl); (case hg => rfl); (case hn => rfl); (case hr => first | (go_simp; done) | (go_simp; rfl)); intro w11 hw; have hg : wr.grownBy w11 (some go9) := (by rw [hw]; exact HP10.2); have hp_ : Kd.R (Kd.int .u8) 5 w11 w.heap.size (fun _ => True) (.slice (some ⟨go9, 0, none⟩) x3_1.length co9) y105 := (by rw [hw, Ny105.out]; exact HP10.1); clear HP10; have n0_ := Aside0.mk (hp_); have n1_ := Aside0.mk ((by rw [hw]; exact below_set (HB.out) GB9.out : Below w.heap.size w w11)); clear HO_3; clear HB; have HO_3 := n0_; have HB := n1_; clear n0_ n1_; clear hg hw hp_))
                go_roundg k1
                case measure => have := HK1.out; omega
                case rel => exact ⟨(y105), (wrap64 (x4_1 + 1)), (by first | rfl | (simp; done) | (simp [*]; done)), H', ⟨by have := HK1.out; omega⟩, ⟨by (with_reducible repeat (first | apply Kd.R_alloc | apply Kd.R_drewN | apply Kd.R_drew)); exact HO_3.out⟩, ⟨by repeat (first | (with_reducible first | exact HB.out | apply below_alloc | apply pw_below_drewN | apply below_drew1) | exact HB.out)⟩⟩
              · rw [if_neg c8] at H
                exact absurd H (by simp)
            · rw [if_neg c7] at H
              exact absurd H (by simp)
          · rw [if_neg c6] at H
            have c6b0 : decide (x4_1 < (l0.length : Int)) = false := decide_eq_false c6
            clear c6
            obtain rfl := Option.some.inj H
            go_wp2
            go_ret
            exact ⟨_, by first | rfl | (simp [errW_none, errW_some] <;> rfl) | (simp [*, errW_none, errW_some] <;> rfl), by (with_reducible repeat (first | apply Kd.R_alloc | apply Kd.R_drewN | apply Kd.R_drew)); exact HO_3.out, by repeat (first | (with_reducible first | exact HB.out | apply below_alloc | apply pw_below_drewN | apply below_drew1) | exact HB.out)⟩
    · rw [if_neg c3] at H
      exact absurd H (by simp)
  · rw [if_neg c2] at H
    exact absurd H (by simp)

end Go.Proofs.YtcamchdenjpmhaaDoor.F
namespace Go.Proofs.YtcamchdenjpmhaaDoor.F
open Go Go.Shelf Go.RowKit Go.Proofs.YtcamchdenjpmhaaDoorW.PrintWords Go.Proofs.YtcamchdenjpmhaaDoorW.PrintLast Go.Proofs.YtcamchdenjpmhaaDoorW.PrintMore
attribute [local go_sem] max2_int min2_int max_two min_two max_three min_three max_four min_four   -- for this text's walks alone
set_option linter.unusedVariables false
set_option linter.unusedSimpArgs false

/-! ### impl_u16: function 15 -/
def impl_u16.f (a0 : ByteArray) : Option (Int) := if 0 < (a0.size : Int) then (if 1 < (a0.size : Int) then (some (Go.bits .or .i64 (wrap64 ((wrap64 (bt a0 0)) * 256)) (wrap64 (bt a0 1)))) else (none)) else (none)
set_option maxHeartbeats 8000000 in
set_option maxRecDepth 100000 in
theorem impl_u16.calls (a0 : ByteArray) (r : Int) (w : World) (h : impl_u16.f a0 = some r) :
    Calls Tryd.prog 15 #[.string a0] w fun e w' => e = .returned (.int .i64 r) ∧ Drawn0 w w' := by
  have H : (if 0 < (a0.size : Int) then (if 1 < (a0.size : Int) then (some (Go.bits .or .i64 (wrap64 ((wrap64 (bt a0 0)) * 256)) (wrap64 (bt a0 1)))) else (none)) else (none)) = some r := h
  clear h
  by_cases c2 : 0 < (a0.size : Int)
  · rw [if_pos c2] at H
    have c2b0 : decide (0 < (a0.size : Int)) = true := decide_eq_true c2
    have c2b1 : decide (0 < a0.size) = true := decide_eq_true (by omega)
    clear c2
    by_cases c4 : 1 < (a0.size : Int)
    · rw [if_pos c4] at H
      have c4b0 : decide (1 < (a0.size : Int)) = true := decide_eq_true c4
      have c4b1 : decide (1 < a0.size) = true := decide_eq_true (by omega)
      clear c4
      obtain rfl := Option.some.inj H
      have p3 : 0 ≤ (0 : Int) := (by omega)
      have q3 : 0 < a0.size := (by have : (0 : Int) < (a0.size : Int) := of_decide_eq_true (by first | (with_reducible assumption) | assumption); omega)
      have hx3 : ∀ h : 0 < a0.size, ((a0[0]'h).toNat : Int) = bt a0 0 := bt_at a0 0
      clear p3
      have qi3 : (0 < (a0.size : Int)) = True := eq_true (of_decide_eq_true (by first | (with_reducible assumption) | assumption))
      replace q3 := eq_true q3
      have p5 : 0 ≤ (1 : Int) := (by omega)
      have q5 : 1 < a0.size := (by have : (1 : Int) < (a0.size : Int) := of_decide_eq_true (by first | (with_reducible assumption) | assumption); omega)
      have hx5 : ∀ h : 1 < a0.size, ((a0[1]'h).toNat : Int) = bt a0 1 := bt_at a0 1
      clear p5
      have qi5 : (1 < (a0.size : Int)) = True := eq_true (of_decide_eq_true (by first | (with_reducible assumption) | assumption))
      replace q5 := eq_true q5
      go_enter Tryd.func15, Tryd.ntmps15
      go_wp2
      repeat (go_quiet (fail); try go_wp2)
      go_ret
      exact ⟨by first | rfl | (simp; done) | (simp [*]; done), by repeat (first | exact Drawn0.refl _ | apply Drawn0.step)⟩
    · rw [if_neg c4] at H
      exact absurd H (by simp)
  · rw [if_neg c2] at H
    exact absurd H (by simp)

end Go.Proofs.YtcamchdenjpmhaaDoor.F
namespace Go.Proofs.YtcamchdenjpmhaaDoor.F
open Go Go.Shelf Go.RowKit Go.Proofs.YtcamchdenjpmhaaDoorW.PrintWords Go.Proofs.YtcamchdenjpmhaaDoorW.PrintLast Go.Proofs.YtcamchdenjpmhaaDoorW.PrintMore
attribute [local go_sem] max2_int min2_int max_two min_two max_three min_three max_four min_four   -- for this text's walks alone
set_option linter.unusedVariables false
set_option linter.unusedSimpArgs false

/-! ### impl_bit: function 29 -/
def impl_bit.f (a0 : Int) (a1 : Int) : Option (Bool) := if 0 ≤ a1 then (some ((Go.bits .and .i64 (shr .i64 a0 a1) 1) == 1)) else (none)
set_option maxHeartbeats 8000000 in
set_option maxRecDepth 100000 in
theorem impl_bit.calls (a0 : Int) (a1 : Int) (r : Bool) (w : World) (h : impl_bit.f a0 a1 = some r) :
    Calls Tryd.prog 29 #[.int .i64 a0, .int .u64 a1] w fun e w' => e = .returned (.bool r) ∧ Drawn0 w w' := by
  have H : (if 0 ≤ a1 then (some ((Go.bits .and .i64 (shr .i64 a0 a1) 1) == 1)) else (none)) = some r := h
  clear h
  by_cases c3 : 0 ≤ a1
  · rw [if_pos c3] at H
    have c3b0 := eq_true c3
    have c3b1 : decide (0 ≤ a1) = true := decide_eq_true c3
    clear c3
    obtain ⟨ji4, hji4⟩ : ∃ j_ : Int, (shr .i64 a0 a1) = j_ := ⟨_, rfl⟩
    replace H : (some ((Go.bits .and .i64 (ji4) 1) == 1)) = some r := by first | (rw [hji4] at H; exact H) | (simp only [hji4] at H ⊢; exact H)
    have hji4_ : (a0 / 2 ^ min a1.toNat 64) = ji4 := hji4
    have hji4z : a1 ≤ 64 → (a0 / 2 ^ a1.toNat) = ji4 := shr_small hji4
    obtain rfl := Option.some.inj H
    go_enter Tryd.func29, Tryd.ntmps29
    go_wp2
    go_ret
    exact ⟨by first | rfl | (simp; done) | (simp only [← hji4] <;> (first | rfl | simp)) | (simp [*]; done), by repeat (first | exact Drawn0.refl _ | apply Drawn0.step)⟩
  · rw [if_neg c3] at H
    exact absurd H (by simp)

end Go.Proofs.YtcamchdenjpmhaaDoor.F
namespace Go.Proofs.YtcamchdenjpmhaaDoor.F
open Go Go.Shelf Go.RowKit Go.Proofs.YtcamchdenjpmhaaDoorW.PrintWords Go.Proofs.YtcamchdenjpmhaaDoorW.PrintLast Go.Proofs.YtcamchdenjpmhaaDoorW.PrintMore
attribute [local go_sem] max2_int min2_int max_two min_two max_three min_three max_four min_four   -- for this text's walks alone
set_option linter.unusedVariables false
set_option linter.unusedSimpArgs false

/-! ### impl_DecodeHead: function 13 -/
set_option maxHeartbeats 8000000 in
set_option maxRecDepth 100000 in
theorem impl_DecodeHead.short (A0 : Option Addr) (c0 : Nat) (l0 : List Int) (w : World) (hr0 : Kd.C (Kd.int .u8) w A0 l0.length l0) (hc0 : l0.length ≤ c0) (h : l0.length < 12) :
    Calls Tryd.prog 13 #[.slice A0 l0.length c0] w fun e w' => e = .returned (.tuple #[.agg #[.int .i64 0, .bool false, .int .i64 0, .bool false, .bool false, .bool false, .bool false, .bool false, .bool false, .bool false, .int .i64 0], .agg #[.int .i64 0, .int .i64 0, .int .i64 0, .int .i64 0], .int .i64 8]) ∧ Below w.heap.size w w' := by
  have hlt : decide ((l0.length : Int) < 12) = true := decide_eq_true (by omega)
  go_enter Tryd.func13, Tryd.ntmps13
  go_wp2
  refine bodyPost_ret (v := .tuple #[.agg #[.int .i64 0, .bool false, .int .i64 0, .bool false, .bool false, .bool false, .bool false, .bool false, .bool false, .bool false, .int .i64 0], .agg #[.int .i64 0, .int .i64 0, .int .i64 0, .int .i64 0], .int .i64 8]) (by simp [results, Tryd.results13, go_sem]) rfl ⟨rfl, below_alloc (below_alloc (Below.refl _ _) _) _⟩
set_option maxHeartbeats 8000000 in
set_option maxRecDepth 100000 in
theorem impl_DecodeHead.long (A0 : Option Addr) (c0 : Nat) (l0 : List Int) (w : World) (hr0 : Kd.C (Kd.int .u8) w A0 l0.length l0) (hc0 : l0.length ≤ c0) (h : 12 ≤ l0.length) (s : ByteArray) (hs : strOfNums (l0.take 12) = s) (f id n0 n1 n2 n3 : Int) (b15 b10 b9 b8 b7 b6 b5 b4 : Bool)
    (hf : impl_u16.f (s.extract 2 12) = some f) (hid : impl_u16.f s = some id) (h0 : impl_u16.f (s.extract 4 12) = some n0) (h1 : impl_u16.f (s.extract 6 12) = some n1) (h2 : impl_u16.f (s.extract 8 12) = some n2) (h3 : impl_u16.f (s.extract 10 12) = some n3)
    (k15 : impl_bit.f f 15 = some b15) (k10 : impl_bit.f f 10 = some b10) (k9 : impl_bit.f f 9 = some b9) (k8 : impl_bit.f f 8 = some b8) (k7 : impl_bit.f f 7 = some b7) (k6 : impl_bit.f f 6 = some b6) (k5 : impl_bit.f f 5 = some b5) (k4 : impl_bit.f f 4 = some b4) :
    Calls Tryd.prog 13 #[.slice A0 l0.length c0] w fun e w' => e = .returned (.tuple #[.agg #[.int .i64 id, .bool b15, .int .i64 (Go.bits .and .i64 (shr .i64 f 11) 15), .bool b10, .bool b9, .bool b8, .bool b7, .bool b6, .bool b5, .bool b4, .int .i64 (Go.bits .and .i64 f 15)], .agg #[.int .i64 n0, .int .i64 n1, .int .i64 n2, .int .i64 n3], .int .i64 0]) ∧ Below w.heap.size w w' := by
  have hlt : decide ((l0.length : Int) < 12) = false := decide_eq_false (by omega)
  have hsz : s.size = 12 := by rw [← hs]; simp [strOfNums, ByteArray.size]; omega
  have hcv : ∀ W : World, Below w.heap.size w W → Sem.run Tryd.prog (convert 22 9 (.slice A0 12 c0)) W = .ok (.string s) W := by
    intro W hb
    have hC := Kd.C_take hr0 h
    rw [List.length_take, Nat.min_eq_left h] at hC
    rw [← hs]
    exact Kd.C_string Tryd.underlying22 Tryd.underlying5 Tryd.underlying9 (Kd.C_below hC hb)
  have HC := Aside0.mk hcv
  clear hcv hs hr0
  have hcv := fun o1 o2 => HC.out ((w.alloc o1).alloc o2) (below_alloc (below_alloc (Below.refl _ _) _) _)
  go_enter Tryd.func13, Tryd.ntmps13
  go_wp2_with fail
  refine (impl_u16.calls _ _ _ hf).mono ?_
  rintro e w1 ⟨rfl, m, rfl⟩
  go_wp2_with fail
  refine (impl_u16.calls _ _ _ hid).mono ?_
  rintro e w1 ⟨rfl, m, rfl⟩
  go_wp2_with fail
  refine (impl_bit.calls _ _ _ _ k15).mono ?_
  rintro e w1 ⟨rfl, m, rfl⟩
  go_wp2_with fail
  refine (impl_bit.calls _ _ _ _ k10).mono ?_
  rintro e w1 ⟨rfl, m, rfl⟩
  go_wp2_with fail
  refine (impl_bit.calls _ _ _ _ k9).mono ?_
  rintro e w1 ⟨rfl, m, rfl⟩
  go_wp2_with fail
  refine (impl_bit.calls _ _ _ _ k8).mono ?_
  rintro e w1 ⟨rfl, m, rfl⟩
  go_wp2_with fail
  refine (impl_bit.calls _ _ _ _ k7).mono ?_
  rintro e w1 ⟨rfl, m, rfl⟩
  go_wp2_with fail
  refine (impl_bit.calls _ _ _ _ k6).mono ?_
  rintro e w1 ⟨rfl, m, rfl⟩
  go_wp2_with fail
  refine (impl_bit.calls _ _ _ _ k5).mono ?_
  rintro e w1 ⟨rfl, m, rfl⟩
  go_wp2_with fail
  refine (impl_bit.calls _ _ _ _ k4).mono ?_
  rintro e w1 ⟨rfl, m, rfl⟩
  go_wp2_with fail
  have hz : ∀ (W : World) o, (W.alloc o).heap.size = W.heap.size + 1 := fun _ _ => Array.size_push _
  refine start_ (n := 17) (S := fun w' => w'.heap[w.heap.size]? = some (.cells #[.int .i64 0, .bool false, .int .i64 0, .bool false, .bool false, .bool false, .bool false, .bool false, .bool false, .bool false, .int .i64 0] 24 (0, 0)) ∧ w'.heap[w.heap.size + 1]? = some (.cells #[.int .i64 0, .int .i64 0, .int .i64 0, .int .i64 0] 39 (0, 0)) ∧ w'.heap[w.heap.size + 1 + 1]? = some (.cells #[.int .i64 id, .bool b15, .int .i64 (Go.bits .and .i64 (f / 2048) 15), .bool b10, .bool b9, .bool b8, .bool b7, .bool b6, .bool b5, .bool b4, .int .i64 (Go.bits .and .i64 f 15)] 24 (0, 0)) ∧ Below w.heap.size w w' ∧ w'.cell? ⟨w.heap.size + 1 + 1, 0, none⟩ = some (.int .i64 id) ∧ w'.cell? ⟨w.heap.size + 1 + 1, 1, none⟩ = some (.bool b15) ∧ w'.cell? ⟨w.heap.size + 1 + 1, 2, none⟩ = some (.int .i64 (Go.bits .and .i64 (f / 2048) 15)) ∧ w'.cell? ⟨w.heap.size + 1 + 1, 3, none⟩ = some (.bool b10) ∧ w'.cell? ⟨w.heap.size + 1 + 1, 4, none⟩ = some (.bool b9) ∧ w'.cell? ⟨w.heap.size + 1 + 1, 5, none⟩ = some (.bool b8) ∧ w'.cell? ⟨w.heap.size + 1 + 1, 6, none⟩ = some (.bool b7) ∧ w'.cell? ⟨w.heap.size + 1 + 1, 7, none⟩ = some (.bool b6) ∧ w'.cell? ⟨w.heap.size + 1 + 1, 8, none⟩ = some (.bool b5) ∧ w'.cell? ⟨w.heap.size + 1 + 1, 9, none⟩ = some (.bool b4) ∧ w'.cell? ⟨w.heap.size + 1 + 1, 10, none⟩ = some (.int .i64 (Go.bits .and .i64 f 15))) (ds := [14, 15]) #[false, false, false, false, false, false, false, false, false, false, false, false, false, false, false, false, false] (by kernel_rfl) rfl rfl ⟨blk_drew (blk_alloc (blk_drewN (blk_alloc (blk_new w _) _) _) _), (by have e := blk_new (w.alloc (.cells #[.int .i64 0, .bool false, .int .i64 0, .bool false, .bool false, .bool false, .bool false, .bool false, .bool false, .bool false, .int .i64 0] 24 (0, 0))) (.cells #[.int .i64 0, .int .i64 0, .int .i64 0, .int .i64 0] 39 (0, 0)); rw [hz] at e; exact blk_drew (blk_alloc (blk_drewN e _) _)), (by have e := blk_new ((w.alloc (.cells #[.int .i64 0, .bool false, .int .i64 0, .bool false, .bool false, .bool false, .bool false, .bool false, .bool false, .bool false, .int .i64 0] 24 (0, 0))).alloc (.cells #[.int .i64 0, .int .i64 0, .int .i64 0, .int .i64 0] 39 (0, 0))) (.cells #[.int .i64 id, .bool b15, .int .i64 (Go.bits .and .i64 (f / 2048) 15), .bool b10, .bool b9, .bool b8, .bool b7, .bool b6, .bool b5, .bool b4, .int .i64 (Go.bits .and .i64 f 15)] 24 (0, 0)); rw [hz, hz] at e; exact blk_drew e), below_drew1 (below_alloc (pw_below_drewN (below_alloc (below_alloc (Below.refl _ _) _) _) _) _), blk_cell (by have e := blk_new ((w.alloc (.cells #[.int .i64 0, .bool false, .int .i64 0, .bool false, .bool false, .bool false, .bool false, .bool false, .bool false, .bool false, .int .i64 0] 24 (0, 0))).alloc (.cells #[.int .i64 0, .int .i64 0, .int .i64 0, .int .i64 0] 39 (0, 0))) (.cells #[.int .i64 id, .bool b15, .int .i64 (Go.bits .and .i64 (f / 2048) 15), .bool b10, .bool b9, .bool b8, .bool b7, .bool b6, .bool b5, .bool b4, .int .i64 (Go.bits .and .i64 f 15)] 24 (0, 0)); rw [hz, hz] at e; exact blk_drew e) 0, blk_cell (by have e := blk_new ((w.alloc (.cells #[.int .i64 0, .bool false, .int .i64 0, .bool false, .bool false, .bool false, .bool false, .bool false, .bool false, .bool false, .int .i64 0] 24 (0, 0))).alloc (.cells #[.int .i64 0, .int .i64 0, .int .i64 0, .int .i64 0] 39 (0, 0))) (.cells #[.int .i64 id, .bool b15, .int .i64 (Go.bits .and .i64 (f / 2048) 15), .bool b10, .bool b9, .bool b8, .bool b7, .bool b6, .bool b5, .bool b4, .int .i64 (Go.bits .and .i64 f 15)] 24 (0, 0)); rw [hz, hz] at e; exact blk_drew e) 1, blk_cell (by have e := blk_new ((w.alloc (.cells #[.int .i64 0, .bool false, .int .i64 0, .bool false, .bool false, .bool false, .bool false, .bool false, .bool false, .bool false, .int .i64 0] 24 (0, 0))).alloc (.cells #[.int .i64 0, .int .i64 0, .int .i64 0, .int .i64 0] 39 (0, 0))) (.cells #[.int .i64 id, .bool b15, .int .i64 (Go.bits .and .i64 (f / 2048) 15), .bool b10, .bool b9, .bool b8, .bool b7, .bool b6, .bool b5, .bool b4, .int .i64 (Go.bits .and .i64 f 15)] 24 (0, 0)); rw [hz, hz] at e; exact blk_drew e) 2, blk_cell (by have e := blk_new ((w.alloc (.cells #[.int .i64 0, .bool false, .int .i64 0, .bool false, .bool false, .bool false, .bool false, .bool false, .bool false, .bool false, .int .i64 0] 24 (0, 0))).alloc (.cells #[.int .i64 0, .int .i64 0, .int .i64 0, .int .i64 0] 39 (0, 0))) (.cells #[.int .i64 id, .bool b15, .int .i64 (Go.bits .and .i64 (f / 2048) 15), .bool b10, .bool b9, .bool b8, .bool b7, .bool b6, .bool b5, .bool b4, .int .i64 (Go.bits .and .i64 f 15)] 24 (0, 0)); rw [hz, hz] at e; exact blk_drew e) 3, blk_cell (by have e := blk_new ((w.alloc (.cells #[.int .i64 0, .bool false, .int .i64 0, .bool false, .bool false, .bool false, .bool false, .bool false, .bool false, .bool false, .int .i64 0] 24 (0, 0))).alloc (.cells #[.int .i64 0, .int .i64 0, .int .i64 0, .int .i64 0] 39 (0, 0))) (.cells #[.int .i64 id, .bool b15, .int .i64 (Go.bits .and .i64 (f / 2048) 15), .bool b10, .bool b9, .bool b8, .bool b7, .bool b6, .bool b5, .bool b4, .int .i64 (Go.bits .and .i64 f 15)] 24 (0, 0)); rw [hz, hz] at e; exact blk_drew e) 4, blk_cell (by have e := blk_new ((w.alloc (.cells #[.int .i64 0, .bool false, .int .i64 0, .bool false, .bool false, .bool false, .bool false, .bool false, .bool false, .bool false, .int .i64 0] 24 (0, 0))).alloc (.cells #[.int .i64 0, .int .i64 0, .int .i64 0, .int .i64 0] 39 (0, 0))) (.cells #[.int .i64 id, .bool b15, .int .i64 (Go.bits .and .i64 (f / 2048) 15), .bool b10, .bool b9, .bool b8, .bool b7, .bool b6, .bool b5, .bool b4, .int .i64 (Go.bits .and .i64 f 15)] 24 (0, 0)); rw [hz, hz] at e; exact blk_drew e) 5, blk_cell (by have e := blk_new ((w.alloc (.cells #[.int .i64 0, .bool false, .int .i64 0, .bool false, .bool false, .bool false, .bool false, .bool false, .bool false, .bool false, .int .i64 0] 24 (0, 0))).alloc (.cells #[.int .i64 0, .int .i64 0, .int .i64 0, .int .i64 0] 39 (0, 0))) (.cells #[.int .i64 id, .bool b15, .int .i64 (Go.bits .and .i64 (f / 2048) 15), .bool b10, .bool b9, .bool b8, .bool b7, .bool b6, .bool b5, .bool b4, .int .i64 (Go.bits .and .i64 f 15)] 24 (0, 0)); rw [hz, hz] at e; exact blk_drew e) 6, blk_cell (by have e := blk_new ((w.alloc (.cells #[.int .i64 0, .bool false, .int .i64 0, .bool false, .bool false, .bool false, .bool false, .bool false, .bool false, .bool false, .int .i64 0] 24 (0, 0))).alloc (.cells #[.int .i64 0, .int .i64 0, .int .i64 0, .int .i64 0] 39 (0, 0))) (.cells #[.int .i64 id, .bool b15, .int .i64 (Go.bits .and .i64 (f / 2048) 15), .bool b10, .bool b9, .bool b8, .bool b7, .bool b6, .bool b5, .bool b4, .int .i64 (Go.bits .and .i64 f 15)] 24 (0, 0)); rw [hz, hz] at e; exact blk_drew e) 7, blk_cell (by have e := blk_new ((w.alloc (.cells #[.int .i64 0, .bool false, .int .i64 0, .bool false, .bool false, .bool false, .bool false, .bool false, .bool false, .bool false, .int .i64 0] 24 (0, 0))).alloc (.cells #[.int .i64 0, .int .i64 0, .int .i64 0, .int .i64 0] 39 (0, 0))) (.cells #[.int .i64 id, .bool b15, .int .i64 (Go.bits .and .i64 (f / 2048) 15), .bool b10, .bool b9, .bool b8, .bool b7, .bool b6, .bool b5, .bool b4, .int .i64 (Go.bits .and .i64 f 15)] 24 (0, 0)); rw [hz, hz] at e; exact blk_drew e) 8, blk_cell (by have e := blk_new ((w.alloc (.cells #[.int .i64 0, .bool false, .int .i64 0, .bool false, .bool false, .bool false, .bool false, .bool false, .bool false, .bool false, .int .i64 0] 24 (0, 0))).alloc (.cells #[.int .i64 0, .int .i64 0, .int .i64 0, .int .i64 0] 39 (0, 0))) (.cells #[.int .i64 id, .bool b15, .int .i64 (Go.bits .and .i64 (f / 2048) 15), .bool b10, .bool b9, .bool b8, .bool b7, .bool b6, .bool b5, .bool b4, .int .i64 (Go.bits .and .i64 f 15)] 24 (0, 0)); rw [hz, hz] at e; exact blk_drew e) 9, blk_cell (by have e := blk_new ((w.alloc (.cells #[.int .i64 0, .bool false, .int .i64 0, .bool false, .bool false, .bool false, .bool false, .bool false, .bool false, .bool false, .int .i64 0] 24 (0, 0))).alloc (.cells #[.int .i64 0, .int .i64 0, .int .i64 0, .int .i64 0] 39 (0, 0))) (.cells #[.int .i64 id, .bool b15, .int .i64 (Go.bits .and .i64 (f / 2048) 15), .bool b10, .bool b9, .bool b8, .bool b7, .bool b6, .bool b5, .bool b4, .int .i64 (Go.bits .and .i64 f 15)] 24 (0, 0)); rw [hz, hz] at e; exact blk_drew e) 10⟩ (fun hHeld => ?_)
  refine pure_ (i := 1) (N := some 44) (v := ?_) (a' := ?_) #[false, true, false, false, false, false, false, false, false, false, false, false, false, false, false, false, false] rfl rfl (by kernel_rfl) (fun _ _ _ h => h) (Or.inl ⟨by rfl, ?_⟩) ?_ ?_
  rotate_left
  · intro w'
    go_simp
    with_reducible rfl
  rotate_left
  · simp only [Act.put, List.setIfInBounds_toArray, List.set_cons_zero, List.set_cons_succ, i64_w, i32_w]
    rfl
  refine pure_ (i := 2) (N := some 45) (v := ?_) (a' := ?_) #[false, true, true, false, false, false, false, false, false, false, false, false, false, false, false, false, false] rfl rfl (by kernel_rfl) (fun _ _ _ h => h) (Or.inl ⟨by rfl, ?_⟩) ?_ ?_
  rotate_left
  · intro w'
    go_simp
    with_reducible rfl
  rotate_left
  · simp only [Act.put, List.setIfInBounds_toArray, List.set_cons_zero, List.set_cons_succ, i64_w, i32_w]
    rfl
  refine pure_ (i := 4) (N := some 47) (v := ?_) (a' := ?_) #[false, true, true, false, true, false, false, false, false, false, false, false, false, false, false, false, false] rfl rfl (by kernel_rfl) (fun _ _ _ h => h) (Or.inl ⟨by rfl, ?_⟩) ?_ ?_
  rotate_left
  · intro w'
    go_simp
    with_reducible rfl
  rotate_left
  · simp only [Act.put, List.setIfInBounds_toArray, List.set_cons_zero, List.set_cons_succ, i64_w, i32_w]
    rfl
  refine pure_ (i := 5) (N := some 48) (v := ?_) (a' := ?_) #[false, true, true, false, true, true, false, false, false, false, false, false, false, false, false, false, false] rfl rfl (by kernel_rfl) (fun _ _ _ h => h) (Or.inl ⟨by rfl, ?_⟩) ?_ ?_
  rotate_left
  · intro w'
    go_simp
    with_reducible rfl
  rotate_left
  · simp only [Act.put, List.setIfInBounds_toArray, List.set_cons_zero, List.set_cons_succ, i64_w, i32_w]
    rfl
  refine pure_ (i := 7) (N := some 50) (v := ?_) (a' := ?_) #[false, true, true, false, true, true, false, true, false, false, false, false, false, false, false, false, false] rfl rfl (by kernel_rfl) (fun _ _ _ h => h) (Or.inl ⟨by rfl, ?_⟩) ?_ ?_
  rotate_left
  · intro w'
    go_simp
    with_reducible rfl
  rotate_left
  · simp only [Act.put, List.setIfInBounds_toArray, List.set_cons_zero, List.set_cons_succ, i64_w, i32_w]
    rfl
  refine pure_ (i := 8) (N := some 51) (v := ?_) (a' := ?_) #[false, true, true, false, true, true, false, true, true, false, false, false, false, false, false, false, false] rfl rfl (by kernel_rfl) (fun _ _ _ h => h) (Or.inl ⟨by rfl, ?_⟩) ?_ ?_
  rotate_left
  · intro w'
    go_simp
    with_reducible rfl
  rotate_left
  · simp only [Act.put, List.setIfInBounds_toArray, List.set_cons_zero, List.set_cons_succ, i64_w, i32_w]
    rfl
  refine pure_ (i := 10) (N := some 53) (v := ?_) (a' := ?_) #[false, true, true, false, true, true, false, true, true, false, true, false, false, false, false, false, false] rfl rfl (by kernel_rfl) (fun _ _ _ h => h) (Or.inl ⟨by rfl, ?_⟩) ?_ ?_
  rotate_left
  · intro w'
    go_simp
    with_reducible rfl
  rotate_left
  · simp only [Act.put, List.setIfInBounds_toArray, List.set_cons_zero, List.set_cons_succ, i64_w, i32_w]
    rfl
  refine pure_ (i := 11) (N := some 54) (v := ?_) (a' := ?_) #[false, true, true, false, true, true, false, true, true, false, true, true, false, false, false, false, false] rfl rfl (by kernel_rfl) (fun _ _ _ h => h) (Or.inl ⟨by rfl, ?_⟩) ?_ ?_
  rotate_left
  · intro w'
    go_simp
    with_reducible rfl
  rotate_left
  · simp only [Act.put, List.setIfInBounds_toArray, List.set_cons_zero, List.set_cons_succ, i64_w, i32_w]
    rfl
  refine take_ (i := 0) (N := some 43) (v := ?_) (a' := ?_) #[true, true, true, false, true, true, false, true, true, false, true, true, false, false, false, false, false] rfl rfl (by kernel_rfl) (fun _ _ _ h => h) (Or.inl ⟨by rfl, ?_⟩) hHeld ?_ ?_
  rotate_left
  · rintro w' ⟨s0, s1, s2, s3, s4, s5, s6, s7, s8, s9, s10, s11, s12, s13, s14⟩
    go_simp
    with_reducible rfl
  rotate_left
  · simp only [Act.put, List.setIfInBounds_toArray, List.set_cons_zero, List.set_cons_succ, i64_w, i32_w]
    rfl
  refine one_ (i := 3) (N := some 46) #[true, true, true, true, true, true, false, true, true, false, true, true, false, false, false, false, false] rfl rfl (by kernel_rfl) (by decide) (fun K hK => ?_)
  refine goes_ Tryd.func15 (by kernel_rfl) rfl #[.string (s.extract 4 12)] (by rfl) rfl rfl (by simp only [List.map_toArray, List.map_cons, List.map_nil]; rfl) ?_
  with_reducible refine (impl_u16.calls _ _ _ h0).mono ?_
  rintro e w3 ⟨rfl, hd⟩
  refine ⟨_, rfl, ?_⟩
  refine hK.out _ _ ⟨blk_below hHeld.1 hd.below, blk_below hHeld.2.1 hd.below, blk_below hHeld.2.2.1 hd.below, below_step hHeld.2.2.2.1 hd.below, blk_cell (blk_below hHeld.2.2.1 hd.below) 0, blk_cell (blk_below hHeld.2.2.1 hd.below) 1, blk_cell (blk_below hHeld.2.2.1 hd.below) 2, blk_cell (blk_below hHeld.2.2.1 hd.below) 3, blk_cell (blk_below hHeld.2.2.1 hd.below) 4, blk_cell (blk_below hHeld.2.2.1 hd.below) 5, blk_cell (blk_below hHeld.2.2.1 hd.below) 6, blk_cell (blk_below hHeld.2.2.1 hd.below) 7, blk_cell (blk_below hHeld.2.2.1 hd.below) 8, blk_cell (blk_below hHeld.2.2.1 hd.below) 9, blk_cell (blk_below hHeld.2.2.1 hd.below) 10⟩ (fun hHeld => ?_)
  clear hK K
  refine norm_ (a' := ?_) ?_ ?_
  rotate_left
  · show Act.put _ (some 46) _ = _
    simp only [Act.put, List.setIfInBounds_toArray, List.set_cons_zero, List.set_cons_succ, i64_w, i32_w]
    rfl
  refine one_ (i := 6) (N := some 49) #[true, true, true, true, true, true, true, true, true, false, true, true, false, false, false, false, false] rfl rfl (by kernel_rfl) (by decide) (fun K hK => ?_)
  refine goes_ Tryd.func15 (by kernel_rfl) rfl #[.string (s.extract 6 12)] (by rfl) rfl rfl (by simp only [List.map_toArray, List.map_cons, List.map_nil]; rfl) ?_
  with_reducible refine (impl_u16.calls _ _ _ h1).mono ?_
  rintro e w3 ⟨rfl, hd⟩
  refine ⟨_, rfl, ?_⟩
  refine hK.out _ _ ⟨blk_below hHeld.1 hd.below, blk_below hHeld.2.1 hd.below, blk_below hHeld.2.2.1 hd.below, below_step hHeld.2.2.2.1 hd.below, blk_cell (blk_below hHeld.2.2.1 hd.below) 0, blk_cell (blk_below hHeld.2.2.1 hd.below) 1, blk_cell (blk_below hHeld.2.2.1 hd.below) 2, blk_cell (blk_below hHeld.2.2.1 hd.below) 3, blk_cell (blk_below hHeld.2.2.1 hd.below) 4, blk_cell (blk_below hHeld.2.2.1 hd.below) 5, blk_cell (blk_below hHeld.2.2.1 hd.below) 6, blk_cell (blk_below hHeld.2.2.1 hd.below) 7, blk_cell (blk_below hHeld.2.2.1 hd.below) 8, blk_cell (blk_below hHeld.2.2.1 hd.below) 9, blk_cell (blk_below hHeld.2.2.1 hd.below) 10⟩ (fun hHeld => ?_)
  clear hK K
  refine norm_ (a' := ?_) ?_ ?_
  rotate_left
  · show Act.put _ (some 49) _ = _
    simp only [Act.put, List.setIfInBounds_toArray, List.set_cons_zero, List.set_cons_succ, i64_w, i32_w]
    rfl
  refine one_ (i := 9) (N := some 52) #[true, true, true, true, true, true, true, true, true, true, true, true, false, false, false, false, false] rfl rfl (by kernel_rfl) (by decide) (fun K hK => ?_)
  refine goes_ Tryd.func15 (by kernel_rfl) rfl #[.string (s.extract 8 12)] (by rfl) rfl rfl (by simp only [List.map_toArray, List.map_cons, List.map_nil]; rfl) ?_
  with_reducible refine (impl_u16.calls _ _ _ h2).mono ?_
  rintro e w3 ⟨rfl, hd⟩
  refine ⟨_, rfl, ?_⟩
  refine hK.out _ _ ⟨blk_below hHeld.1 hd.below, blk_below hHeld.2.1 hd.below, blk_below hHeld.2.2.1 hd.below, below_step hHeld.2.2.2.1 hd.below, blk_cell (blk_below hHeld.2.2.1 hd.below) 0, blk_cell (blk_below hHeld.2.2.1 hd.below) 1, blk_cell (blk_below hHeld.2.2.1 hd.below) 2, blk_cell (blk_below hHeld.2.2.1 hd.below) 3, blk_cell (blk_below hHeld.2.2.1 hd.below) 4, blk_cell (blk_below hHeld.2.2.1 hd.below) 5, blk_cell (blk_below hHeld.2.2.1 hd.below) 6, blk_cell (blk_below hHeld.2.2.1 hd.below) 7, blk_cell (blk_below hHeld.2.2.1 hd.below) 8, blk_cell (blk_below hHeld.2.2.1 hd.below) 9, blk_cell (blk_below hHeld.2.2.1 hd.below) 10⟩ (fun hHeld => ?_)
  clear hK K
  refine norm_ (a' := ?_) ?_ ?_
  rotate_left
  · show Act.put _ (some 52) _ = _
    simp only [Act.put, List.setIfInBounds_toArray, List.set_cons_zero, List.set_cons_succ, i64_w, i32_w]
    rfl
  refine one_ (i := 12) (N := some 55) #[true, true, true, true, true, true, true, true, true, true, true, true, true, false, false, false, false] rfl rfl (by kernel_rfl) (by decide) (fun K hK => ?_)
  refine goes_ Tryd.func15 (by kernel_rfl) rfl #[.string (s.extract 10 12)] (by rfl) rfl rfl (by simp only [List.map_toArray, List.map_cons, List.map_nil]; rfl) ?_
  with_reducible refine (impl_u16.calls _ _ _ h3).mono ?_
  rintro e w3 ⟨rfl, hd⟩
  refine ⟨_, rfl, ?_⟩
  refine hK.out _ _ ⟨blk_below hHeld.1 hd.below, blk_below hHeld.2.1 hd.below, blk_below hHeld.2.2.1 hd.below, below_step hHeld.2.2.2.1 hd.below, blk_cell (blk_below hHeld.2.2.1 hd.below) 0, blk_cell (blk_below hHeld.2.2.1 hd.below) 1, blk_cell (blk_below hHeld.2.2.1 hd.below) 2, blk_cell (blk_below hHeld.2.2.1 hd.below) 3, blk_cell (blk_below hHeld.2.2.1 hd.below) 4, blk_cell (blk_below hHeld.2.2.1 hd.below) 5, blk_cell (blk_below hHeld.2.2.1 hd.below) 6, blk_cell (blk_below hHeld.2.2.1 hd.below) 7, blk_cell (blk_below hHeld.2.2.1 hd.below) 8, blk_cell (blk_below hHeld.2.2.1 hd.below) 9, blk_cell (blk_below hHeld.2.2.1 hd.below) 10⟩ (fun hHeld => ?_)
  clear hK K
  refine norm_ (a' := ?_) ?_ ?_
  rotate_left
  · show Act.put _ (some 55) _ = _
    simp only [Act.put, List.setIfInBounds_toArray, List.set_cons_zero, List.set_cons_succ, i64_w, i32_w]
    rfl
  refine pure_ (i := 13) (N := some 56) (v := ?_) (a' := ?_) #[true, true, true, true, true, true, true, true, true, true, true, true, true, true, false, false, false] rfl rfl (by kernel_rfl) (fun _ _ _ h => h) (Or.inl ⟨by rfl, ?_⟩) ?_ ?_
  rotate_left
  · intro w'
    go_simp
    with_reducible rfl
  rotate_left
  · simp only [Act.put, List.setIfInBounds_toArray, List.set_cons_zero, List.set_cons_succ, i64_w, i32_w]
    rfl
  refine last_ (i := 14) (N := none) #[true, true, true, true, true, true, true, true, true, true, true, true, true, true, true, false, false] rfl rfl (by kernel_rfl) (by decide) (fun K hK => ?_)
  have g0 := hHeld.1
  have g1 := hHeld.2.1
  have gB := hHeld.2.2.2.1
  clear hHeld
  rw [if_pos (by rfl)]
  refine wp_store_row 24 (.tmp 2) (.tmp 43) rfl w.heap.size #[.int .i64 id, .bool b15, .int .i64 (Go.bits .and .i64 (f / 2048) 15), .bool b10, .bool b9, .bool b8, .bool b7, .bool b6, .bool b5, .bool b4, .int .i64 (Go.bits .and .i64 f 15)] rfl rfl _ _ g0 (by kernel_rfl) rfl (by simp [Value.oneCell']) ?_
  have r0 := setRow_heap w3 w.heap.size _ #[.int .i64 id, .bool b15, .int .i64 (Go.bits .and .i64 (f / 2048) 15), .bool b10, .bool b9, .bool b8, .bool b7, .bool b6, .bool b5, .bool b4, .int .i64 (Go.bits .and .i64 f 15)] _ _ g0
  have r1 := (setRow_other w3 w.heap.size (w.heap.size + 1) #[.int .i64 id, .bool b15, .int .i64 (Go.bits .and .i64 (f / 2048) 15), .bool b10, .bool b9, .bool b8, .bool b7, .bool b6, .bool b5, .bool b4, .int .i64 (Go.bits .and .i64 f 15)] (by omega)).trans g1
  have rB := xbelow_setRow gB (Nat.le_refl _) #[.int .i64 id, .bool b15, .int .i64 (Go.bits .and .i64 (f / 2048) 15), .bool b10, .bool b9, .bool b8, .bool b7, .bool b6, .bool b5, .bool b4, .int .i64 (Go.bits .and .i64 f 15)]
  clear g0 g1 gB
  generalize w3.setRow w.heap.size #[.int .i64 id, .bool b15, .int .i64 (Go.bits .and .i64 (f / 2048) 15), .bool b10, .bool b9, .bool b8, .bool b7, .bool b6, .bool b5, .bool b4, .int .i64 (Go.bits .and .i64 f 15)] = w4 at *
  refine hK.out _ _ ?_
  clear hK K
  refine last_ (i := 15) (N := none) #[true, true, true, true, true, true, true, true, true, true, true, true, true, true, true, true, false] rfl rfl (by kernel_rfl) (by decide) (fun K hK => ?_)
  rw [if_pos (by rfl)]
  refine wp_store_row 39 (.tmp 3) (.tmp 56) rfl (w.heap.size + 1) #[.int .i64 n0, .int .i64 n1, .int .i64 n2, .int .i64 n3] rfl rfl _ _ r1 (by kernel_rfl) rfl (by simp [Value.oneCell']) ?_
  have q0 := (setRow_other w4 (w.heap.size + 1) w.heap.size #[.int .i64 n0, .int .i64 n1, .int .i64 n2, .int .i64 n3] (by omega)).trans r0
  have q1 := setRow_heap w4 (w.heap.size + 1) _ #[.int .i64 n0, .int .i64 n1, .int .i64 n2, .int .i64 n3] _ _ r1
  have qB := xbelow_setRow rB (by omega : w.heap.size ≤ w.heap.size + 1) #[.int .i64 n0, .int .i64 n1, .int .i64 n2, .int .i64 n3]
  clear r0 r1 rB
  generalize w4.setRow (w.heap.size + 1) #[.int .i64 n0, .int .i64 n1, .int .i64 n2, .int .i64 n3] = w5 at *
  refine hK.out _ _ ?_
  clear hK K
  refine pure_ (i := 16) (N := some 4) (v := ?_) (a' := ?_) #[true, true, true, true, true, true, true, true, true, true, true, true, true, true, true, true, true] rfl rfl (by kernel_rfl) (fun _ _ _ h => h) (Or.inl ⟨by rfl, ?_⟩) ?_ ?_
  rotate_left
  · intro w'
    go_simp
    with_reducible rfl
  rotate_left
  · simp only [Act.put, List.setIfInBounds_toArray, List.set_cons_zero, List.set_cons_succ, i64_w, i32_w]
    rfl
  refine done_ (by kernel_rfl) ?_

  go_wp2
  have l1 := run_loadVar_row (P := Tryd.prog) w5 w.heap.size 24 24 _ _ _ q0 Tryd.underlying24 rfl (by kernel_rfl)
  have l2 := run_loadVar_row (P := Tryd.prog) w5 (w.heap.size + 1) 39 39 _ _ _ q1 Tryd.underlying39 rfl (by kernel_rfl)
  clear hcv hz hlt
  refine bodyPost_ret (v := .tuple #[.agg #[.int .i64 id, .bool b15, .int .i64 (Go.bits .and .i64 (f / 2048) 15), .bool b10, .bool b9, .bool b8, .bool b7, .bool b6, .bool b5, .bool b4, .int .i64 (Go.bits .and .i64 f 15)], .agg #[.int .i64 n0, .int .i64 n1, .int .i64 n2, .int .i64 n3], .int .i64 0]) (by simp [results, Tryd.results13, asAddr, Sem.run_bind, l1, l2]) rfl ⟨rfl, qB⟩
-- the function
def impl_DecodeHead.f (l0 : List Int) : Option (Int × Bool × Int × Bool × Bool × Bool × Bool × Bool × Bool × Bool × Int × Int × Int × Int × Int × Int) := if l0.length < 12 then some (0, false, 0, false, false, false, false, false, false, false, 0, 0, 0, 0, 0, 8) else (impl_u16.f ((strOfNums (l0.take 12)).extract 2 12)).bind fun f => (impl_u16.f (strOfNums (l0.take 12))).bind fun id => (impl_bit.f f 15).bind fun b15 => (impl_bit.f f 10).bind fun b10 => (impl_bit.f f 9).bind fun b9 => (impl_bit.f f 8).bind fun b8 => (impl_bit.f f 7).bind fun b7 => (impl_bit.f f 6).bind fun b6 => (impl_bit.f f 5).bind fun b5 => (impl_bit.f f 4).bind fun b4 => (impl_u16.f ((strOfNums (l0.take 12)).extract 4 12)).bind fun n0 => (impl_u16.f ((strOfNums (l0.take 12)).extract 6 12)).bind fun n1 => (impl_u16.f ((strOfNums (l0.take 12)).extract 8 12)).bind fun n2 => (impl_u16.f ((strOfNums (l0.take 12)).extract 10 12)).bind fun n3 => some (id, b15, Go.bits .and .i64 (shr .i64 f 11) 15, b10, b9, b8, b7, b6, b5, b4, Go.bits .and .i64 f 15, n0, n1, n2, n3, 0)
set_option maxHeartbeats 1000000 in
theorem impl_DecodeHead.calls (A0 : Option Addr) (c0 : Nat) (l0 : List Int) (r0 : Int) (r1 : Bool) (r2 : Int) (r3 : Bool) (r4 : Bool) (r5 : Bool) (r6 : Bool) (r7 : Bool) (r8 : Bool) (r9 : Bool) (r10 : Int) (r11 : Int) (r12 : Int) (r13 : Int) (r14 : Int) (r15 : Int) (w : World) (hr0 : Kd.C (Kd.int .u8) w A0 l0.length l0) (hc0 : l0.length ≤ c0) (h : impl_DecodeHead.f l0 = some (r0, r1, r2, r3, r4, r5, r6, r7, r8, r9, r10, r11, r12, r13, r14, r15)) :
    Calls Tryd.prog 13 #[.slice A0 l0.length c0] w fun e w' => e = .returned (.tuple #[.agg #[.int .i64 r0, .bool r1, .int .i64 r2, .bool r3, .bool r4, .bool r5, .bool r6, .bool r7, .bool r8, .bool r9, .int .i64 r10], .agg #[.int .i64 r11, .int .i64 r12, .int .i64 r13, .int .i64 r14], .int .i64 r15]) ∧ Below w.heap.size w w' := by
  unfold impl_DecodeHead.f at h
  split at h
  case isTrue hl =>
    cases h
    exact impl_DecodeHead.short A0 c0 l0 w hr0 hc0 hl
  case isFalse hl =>
    obtain ⟨f, e0, h⟩ := Option.bind_eq_some_iff.mp h
    obtain ⟨id, e1, h⟩ := Option.bind_eq_some_iff.mp h
    obtain ⟨b15, e2, h⟩ := Option.bind_eq_some_iff.mp h
    obtain ⟨b10, e3, h⟩ := Option.bind_eq_some_iff.mp h
    obtain ⟨b9, e4, h⟩ := Option.bind_eq_some_iff.mp h
    obtain ⟨b8, e5, h⟩ := Option.bind_eq_some_iff.mp h
    obtain ⟨b7, e6, h⟩ := Option.bind_eq_some_iff.mp h
    obtain ⟨b6, e7, h⟩ := Option.bind_eq_some_iff.mp h
    obtain ⟨b5, e8, h⟩ := Option.bind_eq_some_iff.mp h
    obtain ⟨b4, e9, h⟩ := Option.bind_eq_some_iff.mp h
    obtain ⟨n0, e10, h⟩ := Option.bind_eq_some_iff.mp h
    obtain ⟨n1, e11, h⟩ := Option.bind_eq_some_iff.mp h
    obtain ⟨n2, e12, h⟩ := Option.bind_eq_some_iff.mp h
    obtain ⟨n3, e13, h⟩ := Option.bind_eq_some_iff.mp h
    cases h
    exact impl_DecodeHead.long A0 c0 l0 w hr0 hc0 (by omega) _ rfl _ _ _ _ _ _ _ _ _ _ _ _ _ _ e0 e1 e10 e11 e12 e13 e2 e3 e4 e5 e6 e7 e8 e9

end Go.Proofs.YtcamchdenjpmhaaDoor.F
