/- Part 7 of 7 of the proof of FnExactSha256: what each Go function on its way computes, that the Go code does just this, and what the law says of it. No condition beyond the statement's own. -/
import Derived.Lib.Bytes
import Derived.Test.YtlopdegnpbokjaaDoorRows
import Derived.Test.YtlopdegnpbokjaaDoorTie
import Derived.Test.YtlopdegnpbokjaaDoorCards
import Derived.WalkKit
import Derived.ProofKit
import Derived.OpenShut
import Derived.OpenVars
import Derived.ShutString
import Derived.ChangeOld
import Derived.Below
import Derived.SizedLaws
import Derived.Deep.Slices
import Derived.ChangeArms
import Derived.Test.YtlopdegnpbokjaaDoorMFnExactSha2566
namespace Go.Proofs.YtlopdegnpbokjaaDoor.F
open Go Go.Shelf Go.RowKit Go.Proofs.YtlopdegnpbokjaaDoorW.PrintWords Go.Proofs.YtlopdegnpbokjaaDoorW.PrintLast Go.Proofs.YtlopdegnpbokjaaDoorW.PrintMore
attribute [local go_sem] max2_int min2_int max_two min_two max_three min_three max_four min_four   -- for this text's walks alone
set_option linter.unusedVariables false
set_option linter.unusedSimpArgs false

/-! ### laws_eqByteS: function 11 -/
def laws_eqByteS.l0 : Nat → List Int → List Int → Int → Option (Bool)
  | 0, _, _, _ => none
  | k + 1, x0, x1, x5 => if x5 < (x0.length : Int) then (if 0 ≤ x5 then (if x5 < (x1.length : Int) then (if (rd x0 x5) = (rd x1 x5) then (laws_eqByteS.l0 k x0 x1 (wrap64 (x5 + 1))) else (some false)) else (none)) else (none)) else (some true)
def laws_eqByteS.f (k : Nat) (l0 : List Int) (l1 : List Int) : Option (Bool) := if (l0.length : Int) = (l1.length : Int) then (laws_eqByteS.l0 k l0 l1 0) else (some false)
theorem laws_eqByteS.mono_l : ∀ k, (∀ y0 y1 y2, LeO (laws_eqByteS.l0 k y0 y1 y2) (laws_eqByteS.l0 (k + 1) y0 y1 y2))
  | 0 => fun _ _ _ r h => by simp [laws_eqByteS.l0] at h
  | k + 1 => by
    have ih0 := laws_eqByteS.mono_l k
    · intro y0 y1 y2
      unfold laws_eqByteS.l0
      repeat' first
      | (with_reducible exact ih0 _ _ _)
      | (with_reducible exact LeO.refl _)
      | (with_reducible exact LeO.none _)
      | (with_reducible refine LeO.ite ?_ ?_)
      | (with_reducible refine LeO.bind ?_ (fun _ => ?_))
      | exact ih0 _ _ _
      | exact LeO.none _
      | refine LeO.ite ?_ ?_
      | refine LeO.bind ?_ (fun _ => ?_)
theorem laws_eqByteS.mono : ∀ a0 a1 k, LeO (laws_eqByteS.f k a0 a1) (laws_eqByteS.f (k + 1) a0 a1) := by
  intro a0 a1 k
  have ih0 := laws_eqByteS.mono_l k
  unfold laws_eqByteS.f
  repeat' first
      | (with_reducible exact ih0 _ _ _)
      | (with_reducible exact LeO.refl _)
      | (with_reducible exact LeO.none _)
      | (with_reducible refine LeO.ite ?_ ?_)
      | (with_reducible refine LeO.bind ?_ (fun _ => ?_))
      | exact ih0 _ _ _
      | exact LeO.none _
      | refine LeO.ite ?_ ?_
      | refine LeO.bind ?_ (fun _ => ?_)
set_option maxHeartbeats 8000000 in
set_option maxRecDepth 100000 in
theorem laws_eqByteS.calls (k : Nat) (A0 : Option Addr) (c0 : Nat) (l0 : List Int) (A1 : Option Addr) (c1 : Nat) (l1 : List Int) (r : Bool) (w : World) (hr0 : Kd.C (Kd.int .u8) w A0 l0.length l0) (hc0 : l0.length ≤ c0) (hr1 : Kd.C (Kd.int .u8) w A1 l1.length l1) (hc1 : l1.length ≤ c1) (h : laws_eqByteS.f k l0 l1 = some r) :
    Calls Tryd.prog 11 #[.slice A0 l0.length c0, .slice A1 l1.length c1] w fun e w' => e = .returned (.bool r) ∧ Drawn0 w w' := by
  have HR0 := Aside0.mk hr0
  have HC0 := Aside0.mk hc0
  clear hr0 hc0
  have HR1 := Aside0.mk hr1
  have HC1 := Aside0.mk hc1
  clear hr1 hc1
  have H : (if (l0.length : Int) = (l1.length : Int) then (laws_eqByteS.l0 k l0 l1 0) else (some false)) = some r := h
  clear h
  by_cases c3 : (l0.length : Int) = (l1.length : Int)
  · rw [if_pos c3] at H
    have c3b0 : ((l0.length : Int) == (l1.length : Int)) = true := beq_iff_eq.mpr c3
    have c3b1 : ((l0.length : Int) != (l1.length : Int)) = false := bne_eq_false_iff_eq.mpr c3
    have c3b2 : (l0.length == l1.length) = true := by first | simpa using c3 | (simp at c3 ⊢; omega)
    clear c3
    have H' := Aside0.mk H
    clear H
    go_enter Tryd.func11, Tryd.ntmps11
    go_wp2
    repeat (go_quiet (fail); try go_wp2)
    go_loopg [5] k (fun kq v5 w' => ∃ (x5_1 : Int), v5 = .int .i64 x5_1 ∧ Aside0 (laws_eqByteS.l0 kq l0 l1 x5_1 = some r) ∧ Aside0 (kq ≤ k) ∧ Drawn0 w w')
    case atStart => exact ⟨(0), (by first | rfl | (simp; done) | (simp [*]; done)), H', ⟨Nat.le_refl _⟩, by repeat (first | exact Drawn0.refl _ | apply Drawn0.step)⟩
    case round =>
      clear H'
      try clear c1
      try clear p2
      try clear c3
      try clear c3b0
      try clear c3b1
      try clear c3b2
      obtain ⟨x5_1, rfl, HA, HK1, ⟨m1, rfl⟩⟩ := hrel
      cases gk with
      | zero => exact absurd HA.out (by simp [laws_eqByteS.l0])
      | succ k1 =>
        have H := HA.out
        clear HA
        simp only [laws_eqByteS.l0] at H
        by_cases c4 : x5_1 < (l0.length : Int)
        · rw [if_pos c4] at H
          have c4b0 : decide (x5_1 < (l0.length : Int)) = true := decide_eq_true c4
          clear c4
          by_cases c5 : 0 ≤ x5_1
          · rw [if_pos c5] at H
            have c5b0 : decide (0 ≤ x5_1) = true := decide_eq_true c5
            clear c5
            by_cases c6 : x5_1 < (l1.length : Int)
            · rw [if_pos c6] at H
              have c6b0 : decide (x5_1 < (l1.length : Int)) = true := decide_eq_true c6
              clear c6
              by_cases c7 : (rd l0 x5_1) = (rd l1 x5_1)
              · rw [if_pos c7] at H
                have c7b0 : ((rd l0 x5_1) == (rd l1 x5_1)) = true := beq_iff_eq.mpr c7
                have c7b1 : ((rd l0 x5_1) != (rd l1 x5_1)) = false := bne_eq_false_iff_eq.mpr c7
                clear c7
                have H' := Aside0.mk H
                clear H
                have p101 : 0 ≤ (x5_1 : Int) := of_decide_eq_true (by first | (with_reducible assumption) | assumption)
                have q101 : x5_1 < (l0.length : Int) := of_decide_eq_true (by first | (with_reducible assumption) | assumption)
                obtain ⟨ad101, e101, hx101_0⟩ := Kd.at_int HR0.out x5_1 p101 q101
                cases e101
                replace p101 := eq_true p101
                replace q101 := eq_true q101
                have p102 : 0 ≤ (x5_1 : Int) := of_decide_eq_true (by first | (with_reducible assumption) | assumption)
                have q102 : x5_1 < (l1.length : Int) := of_decide_eq_true (by first | (with_reducible assumption) | assumption)
                obtain ⟨ad102, e102, hx102_0⟩ := Kd.at_int HR1.out x5_1 p102 q102
                cases e102
                replace p102 := eq_true p102
                replace q102 := eq_true q102
                go_wp2
                repeat (go_quiet (fail); try go_wp2)
                go_roundg k1
                case measure => have := HK1.out; omega
                case rel => exact ⟨(wrap64 (x5_1 + 1)), (by first | rfl | (simp; done) | (simp [*]; done)), H', ⟨by have := HK1.out; omega⟩, by repeat (first | exact Drawn0.refl _ | apply Drawn0.step)⟩
              · rw [if_neg c7] at H
                have c7b0 : ((rd l0 x5_1) == (rd l1 x5_1)) = false := beq_eq_false_iff_ne.mpr c7
                have c7b1 : ((rd l0 x5_1) != (rd l1 x5_1)) = true := bne_iff_ne.mpr c7
                obtain rfl := Option.some.inj H
                have p101 : 0 ≤ (x5_1 : Int) := of_decide_eq_true (by first | (with_reducible assumption) | assumption)
                have q101 : x5_1 < (l0.length : Int) := of_decide_eq_true (by first | (with_reducible assumption) | assumption)
                obtain ⟨ad101, e101, hx101_0⟩ := Kd.at_int HR0.out x5_1 p101 q101
                cases e101
                replace p101 := eq_true p101
                replace q101 := eq_true q101
                have p102 : 0 ≤ (x5_1 : Int) := of_decide_eq_true (by first | (with_reducible assumption) | assumption)
                have q102 : x5_1 < (l1.length : Int) := of_decide_eq_true (by first | (with_reducible assumption) | assumption)
                obtain ⟨ad102, e102, hx102_0⟩ := Kd.at_int HR1.out x5_1 p102 q102
                cases e102
                replace p102 := eq_true p102
                replace q102 := eq_true q102
                go_wp2
                repeat (go_quiet (fail); try go_wp2)
                go_ret
                exact ⟨by first | rfl | (simp; done) | (simp [*]; done), by repeat (first | exact Drawn0.refl _ | apply Drawn0.step)⟩
            · rw [if_neg c6] at H
              exact absurd H (by simp)
          · rw [if_neg c5] at H
            exact absurd H (by simp)
        · rw [if_neg c4] at H
          have c4b0 : decide (x5_1 < (l0.length : Int)) = false := decide_eq_false c4
          clear c4
          obtain rfl := Option.some.inj H
          go_wp2
          repeat (go_quiet (fail); try go_wp2)
          go_ret
          exact ⟨by first | rfl | (simp; done) | (simp [*]; done), by repeat (first | exact Drawn0.refl _ | apply Drawn0.step)⟩
  · rw [if_neg c3] at H
    have c3b0 : ((l0.length : Int) == (l1.length : Int)) = false := beq_eq_false_iff_ne.mpr c3
    have c3b1 : ((l0.length : Int) != (l1.length : Int)) = true := bne_iff_ne.mpr c3
    have c3b2 : (l0.length == l1.length) = false := by first | simpa using c3 | (simp at c3 ⊢; omega)
    obtain rfl := Option.some.inj H
    go_enter Tryd.func11, Tryd.ntmps11
    go_wp2
    repeat (go_quiet (fail); try go_wp2)
    go_ret
    exact ⟨by first | rfl | (simp; done) | (simp [*]; done), by repeat (first | exact Drawn0.refl _ | apply Drawn0.step)⟩

end Go.Proofs.YtlopdegnpbokjaaDoor.F
namespace Go.Proofs.YtlopdegnpbokjaaDoor.F
open Go Go.Shelf Go.RowKit Go.Proofs.YtlopdegnpbokjaaDoorW.PrintWords Go.Proofs.YtlopdegnpbokjaaDoorW.PrintLast Go.Proofs.YtlopdegnpbokjaaDoorW.PrintMore
attribute [local go_sem] max2_int min2_int max_two min_two max_three min_three max_four min_four   -- for this text's walks alone
set_option linter.unusedVariables false
set_option linter.unusedSimpArgs false

/-! ### laws_FnExactSha256: function 3 -/
set_option maxHeartbeats 8000000 in
set_option maxRecDepth 100000 in
theorem laws_FnExactSha256.calls (k : Nat) (A0 : Option Addr) (c0 : Nat) (l0 : List Int) (w : World) (hr0 : Kd.C (Kd.int .u8) w A0 l0.length l0) (hc0 : l0.length ≤ c0) (hG : GlobK w) (ht : l0.length ≤ 1048576 → laws_toByteS.f k l0 = some l0) (he : l0.length ≤ 1048576 → laws_eqByteS.f k l0 l0 = some true) :
    Calls Tryd.prog 3 #[.slice A0 l0.length c0] w fun e w' => e = .returned (.bool true) ∧ Below w.heap.size w w' := by
  have HR0 := Aside0.mk hr0
  have HC0 := Aside0.mk hc0
  have HG0 := Aside0.mk hG
  clear hr0 hc0 hG
  by_cases hn : 1048576 < l0.length
  · have l1 : ((l0.length : Int) > 1048576) = True := eq_true (by omega)
    have l2 : decide ((1048576 : Int) < (l0.length : Int)) = true := decide_eq_true (by omega)
    have l3 : decide ((l0.length : Int) > 1048576) = true := decide_eq_true (by omega)
    go_enter Tryd.func3, Tryd.ntmps3
    go_wp2
    go_ret
    exact ⟨rfl, Below.refl _ _⟩
  · have HN := Aside0.mk (show l0.length ≤ 2097152 by omega)
    have HT := Aside0.mk (ht (by omega))
    have HE := Aside0.mk (he (by omega))
    have l1 : ((l0.length : Int) > 1048576) = False := eq_false (by omega)
    have l2 : decide ((1048576 : Int) < (l0.length : Int)) = false := decide_eq_false (by omega)
    have l3 : decide ((l0.length : Int) > 1048576) = false := decide_eq_false (by omega)
    clear ht he hn
    obtain ⟨sv, hsv⟩ : ∃ sv, sv = sha l0 := ⟨_, rfl⟩
    have hl32 : sv.length = 32 := by rw [hsv]; exact sha_len l0
    have HL := Aside0.mk hl32
    have HSV := Aside0.mk hsv
    obtain ⟨S, hS⟩ : ∃ S, S = (sv.map (Value.int .u8)).toArray := ⟨_, rfl⟩
    have hsz : (Tryd.prog.info? 23).map (·.size) = some S.size := by rw [hS, List.size_toArray, List.length_map, hl32]; kernel_rfl
    have hold : (Array.replicate 32 (Value.int IntKind.u8 0)).size = S.size := by rw [hS]; show 32 = _; rw [List.size_toArray, List.length_map, hl32]
    have hone : S.all (·.oneCell') = true := by rw [hS]; exact oneInts .u8 sv
    replace hsz := Aside0.mk hsz
    replace hold := Aside0.mk hold
    replace hone := Aside0.mk hone
    replace hS := Aside0.mk hS
    clear hl32 hsv
    go_enter Tryd.func3, Tryd.ntmps3
    go_upto_region 4 with (first | ((with_reducible refine gate_callee (f := 8) rfl ?_); refine goesL_ (some 10) rfl rfl Tryd.func8 (by kernel_rfl) rfl #[.slice A0 l0.length c0] rfl (by (try simp only [List.map_toArray, List.map_cons, List.map_nil]); first | done | rfl) ?_; (with_reducible refine (laws_toByteS.calls k _ _ l0 l0 _ HR0.out HC0.out HT.out).mono ?_); rintro e w8 ⟨v1, rfl, ho, hb⟩; refine ⟨_, rfl, ?_⟩; obtain ⟨A1, c1, e1⟩ := Kd.R_slice ho; subst e1; have HO := Aside0.mk ho; have HB := Aside0.mk hb; clear ho hb) | ((with_reducible refine gate_callee (f := 7) rfl ?_); refine goesL_ (some 11) rfl rfl Tryd.func7 (by kernel_rfl) rfl #[.slice A1 l0.length c1] rfl (by (try simp only [List.map_toArray, List.map_cons, List.map_nil]); first | done | rfl) ?_; (with_reducible refine (spec_Sha256.calls _ _ l0 _ (Kd.R_reads' HO.out).2.2 (Kd.R_reads' HO.out).2.1 HN.out).mono ?_); rintro e w10 ⟨rfl, hb⟩; refine ⟨_, rfl, ?_⟩; rw [← HSV.out, ← hS.out]; have HB1 := Aside0.mk (below_step HB.out hb); clear HB HO hb) | ((with_reducible refine gate_storeT (ty := 23) rfl ?_); refine wpList_store_row rfl 23 (.tmp 3) (.tmp 11) rfl w10.heap.size S rfl rfl 23 _ (blk_new w10 _) hsz.out hold.out hone.out ?_))
    have hq1 := setRow_heap (w10.alloc (Obj.cells (Array.replicate 32 (Value.int IntKind.u8 0)) 23)) w10.heap.size _ S _ _ (blk_new w10 _)
    have hb1 : Below w.heap.size w ((w10.alloc (Obj.cells (Array.replicate 32 (Value.int IntKind.u8 0)) 23)).setRow w10.heap.size S) := xbelow_setRow (below_alloc HB1.out _) (below_size HB1.out) S
    have hs1 : w10.heap.size < ((w10.alloc (Obj.cells (Array.replicate 32 (Value.int IntKind.u8 0)) 23)).setRow w10.heap.size S).heap.size := blk_lt hq1
    have hd1 : Below w10.heap.size w10 ((w10.alloc (Obj.cells (Array.replicate 32 (Value.int IntKind.u8 0)) 23)).setRow w10.heap.size S) := xbelow_setRow (below_alloc (Below.refl _ _) _) (Nat.le_refl _) S
    refine (show ∀ W2, W2 = (w10.alloc (Obj.cells (Array.replicate 32 (Value.int IntKind.u8 0)) 23)).setRow w10.heap.size S → Code.wp _ _ _ _ W2 from fun W2 hW2 => ?_) _ rfl
    rw [← hW2] at hq1 hb1 hs1 hd1
    clear hW2
    have BK1 : Aside0 (ArrI .u8 W2 w10.heap.size 23 sv) := ⟨by unfold ArrI; rw [← hS.out]; exact hq1⟩
    have HB2 := Aside0.mk hb1
    clear hq1 hb1 hd1 HB1
    replace hs1 := Aside0.mk hs1
    generalize hg1 : w10.heap.size = g1 at *
    clear hg1 w10
    go_upto_region 5 with (first | ((with_reducible refine gate_callee (f := 8) rfl ?_); refine goesL_ (some 13) rfl rfl Tryd.func8 (by kernel_rfl) rfl #[.slice A0 l0.length c0] rfl (by (try simp only [List.map_toArray, List.map_cons, List.map_nil]); first | done | rfl) ?_; (with_reducible refine (laws_toByteS.calls k _ _ l0 l0 _ (Kd.C_below HR0.out HB2.out) HC0.out HT.out).mono ?_); rintro e w12 ⟨v1, rfl, ho, hb⟩; refine ⟨_, rfl, ?_⟩; obtain ⟨A2, c2, e1⟩ := Kd.R_slice ho; subst e1; have HO2 := Aside0.mk ho; have HB3 := Aside0.mk (below_step HB2.out hb); have BK2 := Aside0.mk (ArrI.below BK1.out hb); clear ho hb BK1 HB2))
    go_upto_region 6 with (first | ((with_reducible refine gate_callee (f := 9) rfl ?_); refine goesL_ (some 15) rfl rfl Tryd.func9 (by kernel_rfl) rfl #[.slice A2 l0.length c2] rfl (by (try simp only [List.map_toArray, List.map_cons, List.map_nil]); first | done | rfl) ?_; (with_reducible refine (impl_Sha256.calls _ _ l0 _ (Kd.R_reads' HO2.out).2.2 (Kd.R_reads' HO2.out).2.1 HN.out (GlobK.below HG0.out HB3.out)).mono ?_); rintro e w14 ⟨rfl, hb⟩; refine ⟨_, rfl, ?_⟩; rw [← HSV.out, ← hS.out]; have HB4 := Aside0.mk (below_step HB3.out hb); have HO4 := Aside0.mk (Kd.R_below HO2.out hb); have BK4 := Aside0.mk (ArrI.below BK2.out hb); clear HB3 HO2 BK2 hb) | ((with_reducible refine gate_storeT (ty := 23) rfl ?_); refine wpList_store_row rfl 23 (.tmp 5) (.tmp 15) rfl w14.heap.size S rfl rfl 23 _ (blk_new w14 _) hsz.out hold.out hone.out ?_))
    have hq2 := setRow_heap (w14.alloc (Obj.cells (Array.replicate 32 (Value.int IntKind.u8 0)) 23)) w14.heap.size _ S _ _ (blk_new w14 _)
    have hb2 : Below w.heap.size w ((w14.alloc (Obj.cells (Array.replicate 32 (Value.int IntKind.u8 0)) 23)).setRow w14.heap.size S) := xbelow_setRow (below_alloc HB4.out _) (below_size HB4.out) S
    have hs2 : w14.heap.size < ((w14.alloc (Obj.cells (Array.replicate 32 (Value.int IntKind.u8 0)) 23)).setRow w14.heap.size S).heap.size := blk_lt hq2
    have hd2 : Below w14.heap.size w14 ((w14.alloc (Obj.cells (Array.replicate 32 (Value.int IntKind.u8 0)) 23)).setRow w14.heap.size S) := xbelow_setRow (below_alloc (Below.refl _ _) _) (Nat.le_refl _) S
    refine (show ∀ W3, W3 = (w14.alloc (Obj.cells (Array.replicate 32 (Value.int IntKind.u8 0)) 23)).setRow w14.heap.size S → Code.wp _ _ _ _ W3 from fun W3 hW3 => ?_) _ rfl
    rw [← hW3] at hq2 hb2 hs2 hd2
    clear hW3
    have BK5 : Aside0 (ArrI .u8 W3 w14.heap.size 23 sv) := ⟨by unfold ArrI; rw [← hS.out]; exact hq2⟩
    have BK6 := Aside0.mk (ArrI.below BK4.out hd2)
    have HO6 := Aside0.mk (Kd.R_below HO4.out hd2)
    have HB6 := Aside0.mk hb2
    clear hq2 hb2 hd2 HB4 HO4 BK4 hs1 hs2
    generalize hg2 : w14.heap.size = g2 at *
    clear hg2 w14
    have hq5 : W3.heap[g2]? = some (Obj.cells S 23 (0, 0)) := by have := BK5.out; unfold ArrI at this; rw [hS.out]; exact this
    have hq6 : W3.heap[g1]? = some (Obj.cells S 23 (0, 0)) := by have := BK6.out; unfold ArrI at this; rw [hS.out]; exact this
    go_upto_region 8 with (first | ((with_reducible refine gate_dst (N := 16) rfl ?_); refine wpList_load_row rfl 23 (.tmp 5) rfl g2 rfl 23 S (0, 0) _ hq5 Tryd.underlying23 rfl hsz.out ?_) | ((with_reducible refine gate_dst (N := 17) rfl ?_); refine wpList_load_row rfl 23 (.tmp 3) rfl g1 rfl 23 S (0, 0) _ hq6 Tryd.underlying23 rfl hsz.out ?_) | ((with_reducible refine gate_callee (f := 10) rfl ?_); refine goesL_ (some 18) rfl rfl Tryd.func10 (by kernel_rfl) rfl #[.agg S, .agg S] rfl (by (try simp only [List.map_toArray, List.map_cons, List.map_nil]); first | done | rfl) ?_; rw [hS.out]; (with_reducible refine (laws_eqByteA32.calls sv HL.out _).mono ?_); rintro e w16 ⟨rfl, hb⟩; refine ⟨_, rfl, ?_⟩; rw [← hS.out]; have HB7 := Aside0.mk (below_step HB6.out hb); have HO7 := Aside0.mk (Kd.R_below HO6.out hb); clear HB6 HO6 hb hq5 hq6))
    go_wp2_with (first | ((with_reducible refine gate_callee (f := 8) rfl ?_); refine goesL_ (some 22) rfl rfl Tryd.func8 (by kernel_rfl) rfl #[.slice A0 l0.length c0] rfl (by (try simp only [List.map_toArray, List.map_cons, List.map_nil]); first | done | rfl) ?_; (with_reducible refine (laws_toByteS.calls k _ _ l0 l0 _ (Kd.C_below HR0.out HB7.out) HC0.out HT.out).mono ?_); rintro e w18 ⟨v1, rfl, ho, hb⟩; refine ⟨_, rfl, ?_⟩; obtain ⟨A3, c3, e1⟩ := Kd.R_slice ho; subst e1; have HO8 := Aside0.mk ho; have HB8 := Aside0.mk (below_step HB7.out hb); have HO9 := Aside0.mk (Kd.R_below HO7.out hb); clear ho hb HB7 HO7) | ((with_reducible refine gate_callee (f := 11) rfl ?_); refine goesL_ (some 23) rfl rfl Tryd.func11 (by kernel_rfl) rfl #[.slice A2 l0.length c2, .slice A3 l0.length c3] rfl (by (try simp only [List.map_toArray, List.map_cons, List.map_nil]); first | done | rfl) ?_; (with_reducible refine (laws_eqByteS.calls k _ _ l0 _ _ l0 true _ (Kd.R_reads' HO9.out).2.2 (Kd.R_reads' HO9.out).2.1 (Kd.R_reads' HO8.out).2.2 (Kd.R_reads' HO8.out).2.1 HE.out).mono ?_); rintro e w20 ⟨rfl, ⟨⟨n_, rfl⟩⟩⟩; refine ⟨_, rfl, ?_⟩; have HB9 := Aside0.mk (pw_below_drewN HB8.out n_); clear HB8 HO8 HO9))
    go_ret
    exact ⟨rfl, HB9.out⟩

end Go.Proofs.YtlopdegnpbokjaaDoor.F
namespace Go.Proofs.YtlopdegnpbokjaaDoor.Base
open Go.RowKit Go.Proofs.YtlopdegnpbokjaaDoorW.PrintWords Go.Proofs.YtlopdegnpbokjaaDoorW.PrintMore

theorem w64 {x : Int} (h0 : -9223372036854775808 ≤ x) (h1 : x ≤ 9223372036854775807) : wrap64 x = x := by
  unfold wrap64
  omega

def L (s : ByteArray) : List UInt8 := s.data.toList
def B (l : List UInt8) : ByteArray := ⟨l.toArray⟩
theorem L_B (l : List UInt8) : L (B l) = l := by simp [L, B]
theorem B_L (s : ByteArray) : B (L s) = s := by simp [L, B]
theorem L_inj {a b : ByteArray} (h : L a = L b) : a = b := by rw [← B_L a, ← B_L b, h]
theorem L_iff {a b : ByteArray} : L a = L b ↔ a = b := ⟨L_inj, fun h => by rw [h]⟩
theorem size_L (s : ByteArray) : s.size = (L s).length := by simp [L]
theorem toL (s : ByteArray) : s.toList = L s := Lib.toList_data s
theorem L_extract (s : ByteArray) (i j : Nat) : L (s.extract i j) = ((L s).drop i).take (j - i) := by
  simp [L, ByteArray.data_extract]
theorem L_append (a b : ByteArray) : L (a ++ b) = L a ++ L b := by
  simp [L, ByteArray.data_append]
theorem bt_L (s : ByteArray) (i : Int) : bt s i = (((L s).getD i.toNat 0).toNat : Int) := by
  unfold bt
  split
  · rename_i h
    have h' : i.toNat < (L s).length := by rw [← size_L]; exact h
    rw [List.getD_eq_getElem?_getD, List.getElem?_eq_getElem h']
    rfl
  · rename_i h
    have h' : (L s).length ≤ i.toNat := by rw [← size_L]; omega
    rw [List.getD_eq_getElem?_getD, List.getElem?_eq_none h']
    rfl
theorem bt_mid {x : ByteArray} {p : List UInt8} {c : UInt8} {r : List UInt8} (h : L x = p ++ c :: r) {i : Int} (hi : i = (p.length : Int)) : bt x i = (c.toNat : Int) := by
  rw [bt_L, h, hi]
  simp [List.getD_eq_getElem?_getD]
theorem bt_cons {x : ByteArray} {c : UInt8} {r : List UInt8} (h : L x = c :: r) : bt x 0 = (c.toNat : Int) := bt_mid (p := []) h rfl
theorem L_strOfNums (xs : List Int) : L (strOfNums xs) = xs.map fun n => UInt8.ofNat n.toNat := by simp [L, strOfNums]
theorem byte_le (c : UInt8) : (c.toNat : Int) ≤ 255 := by have := c.toNat_lt; omega
theorem byte_id (c : UInt8) : UInt8.ofNat ((c.toNat : Int)).toNat = c := by simp

theorem drop_len {α : Type} (p t : List α) (k : Nat) : (p ++ t).drop (p.length + k) = t.drop k := by
  rw [List.drop_append, List.drop_eq_nil_of_le (by omega), List.nil_append, Nat.add_sub_cancel_left]
theorem getD_len {α : Type} (p t : List α) (k : Nat) (d : α) : (p ++ t).getD (p.length + k) d = t.getD k d := by
  simp [List.getD_eq_getElem?_getD, List.getElem?_append_right]

/-- The labels of a name's bytes; none: they are no name (but for the limit on the whole). -/
def labs : List UInt8 → Option (List ByteArray)
  | [] => none
  | c :: r => if c.toNat = 0 then (if r = [] then some [] else none) else if 63 < c.toNat then none else if r.length < c.toNat then none else (labs (r.drop c.toNat)).map (B (r.take c.toNat) :: ·)
  termination_by l => l.length
  decreasing_by simp; omega

/-- The labels of a name. -/
def names (l : List UInt8) : Option (List ByteArray) := if l.length < 1 ∨ 255 < l.length then none else labs l

/-- What a cut in labels answers that had come to some. -/
def res (acc : List ByteArray) : Option (List ByteArray) → List ByteArray × Bool
  | none => ([], false)
  | some ls => (acc ++ ls, true)
theorem res_map (acc : List ByteArray) (b : ByteArray) (o : Option (List ByteArray)) : res acc (o.map (b :: ·)) = res (acc ++ [b]) o := by
  cases o <;> simp [res]

/-- What the other cut in labels leaves where it fails. -/
def jk (acc : List ByteArray) : List UInt8 → List ByteArray
  | [] => []
  | c :: r => if c.toNat = 0 then acc else if 63 < c.toNat then [] else if r.length < c.toNat then [] else jk (acc ++ [B (r.take c.toNat)]) (r.drop c.toNat)
  termination_by l => l.length
  decreasing_by simp; omega
def res2 (acc : List ByteArray) (l : List UInt8) : List ByteArray × Bool := match labs l with
  | none => (jk acc l, false)
  | some ls => (acc ++ ls, true)
theorem labs_count : ∀ (n : Nat) (l : List UInt8), l.length ≤ n → ∀ ls, labs l = some ls → ls.length + 1 ≤ l.length := by
  intro n
  induction n with
  | zero =>
    intro l hl ls h
    obtain rfl : l = [] := List.length_eq_zero_iff.1 (by omega)
    simp [labs] at h
  | succ n ih =>
    intro l hl ls h
    cases l with
    | nil => simp [labs] at h
    | cons c r =>
      simp only [List.length_cons] at hl ⊢
      rw [labs] at h
      by_cases h0 : c.toNat = 0
      · rw [if_pos h0] at h
        by_cases hr : r = []
        · rw [if_pos hr] at h
          obtain rfl := Option.some.inj h
          simp
        · rw [if_neg hr] at h
          cases h
      · rw [if_neg h0] at h
        by_cases h63 : 63 < c.toNat
        · rw [if_pos h63] at h
          cases h
        · rw [if_neg h63] at h
          by_cases hl2 : r.length < c.toNat
          · rw [if_pos hl2] at h
            cases h
          · rw [if_neg hl2] at h
            obtain ⟨t, ht, rfl⟩ := Option.map_eq_some_iff.1 h
            have := ih (r.drop c.toNat) (by simp; omega) t ht
            simp at this ⊢
            omega
theorem names_count {l : List UInt8} {ls : List ByteArray} (h : names l = some ls) : ls.length ≤ 254 := by
  unfold names at h
  split at h
  · cases h
  · have := labs_count _ l (Nat.le_refl _) ls h
    omega
end Go.Proofs.YtlopdegnpbokjaaDoor.Base
namespace Go.Proofs.YtlopdegnpbokjaaDoor.Pure
open Go.RowKit Go.Proofs.YtlopdegnpbokjaaDoor.F Go.Proofs.YtlopdegnpbokjaaDoor.Base Go.Proofs.YtlopdegnpbokjaaDoorW.PrintWords Go.Proofs.YtlopdegnpbokjaaDoorW.PrintLast Go.Proofs.YtlopdegnpbokjaaDoorW.PrintMore
set_option linter.unusedVariables false
set_option linter.unusedSimpArgs false
theorem laws_eqByteS_l0 (l : List Int) (hl : l.length ≤ 4611686018427387904) : ∀ (d k : Nat) (i : Int), 0 ≤ i → i + d = l.length → d < k → laws_eqByteS.l0 k l l i = some true := by
  intro d
  induction d with
  | zero =>
    intro k i h0 h1 hk
    obtain ⟨k, rfl⟩ : ∃ m, k = m + 1 := ⟨k - 1, by omega⟩
    simp only [laws_eqByteS.l0]
    rw [if_neg (by omega)]
  | succ d ih =>
    intro k i h0 h1 hk
    obtain ⟨k, rfl⟩ : ∃ m, k = m + 1 := ⟨k - 1, by omega⟩
    simp only [laws_eqByteS.l0]
    rw [if_pos (by omega), if_pos h0, if_pos (by omega), if_pos trivial, w64 (by omega) (by omega)]
    exact ih k (i + 1) (by omega) (by omega) (by omega)
theorem laws_eqByteS_refl (l : List Int) (hl : l.length ≤ 4611686018427387904) (k : Nat) (hk : l.length < k) : laws_eqByteS.f k l l = some true := by
  unfold laws_eqByteS.f
  rw [if_pos rfl]
  exact laws_eqByteS_l0 l hl l.length k 0 (by omega) (by omega) hk

end Go.Proofs.YtlopdegnpbokjaaDoor.Pure
namespace Go.Proofs.YtlopdegnpbokjaaDoor.Pure
open Go.RowKit Go.Proofs.YtlopdegnpbokjaaDoor.F Go.Proofs.YtlopdegnpbokjaaDoor.Base Go.Proofs.YtlopdegnpbokjaaDoorW.PrintWords Go.Proofs.YtlopdegnpbokjaaDoorW.PrintLast Go.Proofs.YtlopdegnpbokjaaDoorW.PrintMore
set_option linter.unusedVariables false
set_option linter.unusedSimpArgs false
theorem laws_toByteS_l0 (l : List Int) (hl : l.length ≤ 1000000000) : ∀ (d k i : Nat), i + d = l.length → d < k → laws_toByteS.l0 k l (l.take i ++ List.replicate d 0) (i : Int) = some l := by
  intro d
  induction d with
  | zero =>
    intro k i hi hk
    obtain ⟨k, rfl⟩ : ∃ m, k = m + 1 := ⟨k - 1, by omega⟩
    rw [laws_toByteS.l0, if_neg (by omega)]
    simp only [List.replicate_zero, List.append_nil]
    rw [List.take_of_length_le (by omega)]
  | succ d ih =>
    intro k i hi hk
    obtain ⟨k, rfl⟩ : ∃ m, k = m + 1 := ⟨k - 1, by omega⟩
    have hi' : i < l.length := by omega
    have hel : rd l (i : Int) = l[i] := by simp [rd, List.getD_eq_getElem?_getD, hi']
    rw [laws_toByteS.l0, if_pos (by omega), if_pos (by omega), if_pos (by simp; omega), w64 (by omega) (by omega), hel]
    have e : (l.take i ++ List.replicate (d + 1) (0 : Int)).set (i : Int).toNat l[i] = l.take (i + 1) ++ List.replicate d 0 := by
      rw [Int.toNat_natCast, List.set_append_right _ _ (by simp; omega), List.length_take, Nat.min_eq_left (by omega), Nat.sub_self, List.replicate_succ, List.set_cons_zero, List.take_succ_eq_append_getElem hi', List.append_assoc]
      rfl
    rw [e]
    exact ih k (i + 1) (by omega) (by omega)
theorem laws_toByteS_eq (l : List Int) (hl : l.length ≤ 1000000000) (k : Nat) (hk : l.length < k) : laws_toByteS.f k l = some l := by
  unfold laws_toByteS.f
  rw [if_pos (by omega), if_pos (by omega), Int.toNat_natCast]
  have := laws_toByteS_l0 l hl l.length k 0 (by omega) hk
  simpa using this

end Go.Proofs.YtlopdegnpbokjaaDoor.Pure
namespace Go.Proofs.YtlopdegnpbokjaaDoor.Pure
open Go.RowKit Go.Proofs.YtlopdegnpbokjaaDoor.F Go.Proofs.YtlopdegnpbokjaaDoor.Base Go.Proofs.YtlopdegnpbokjaaDoorW.PrintWords Go.Proofs.YtlopdegnpbokjaaDoorW.PrintLast Go.Proofs.YtlopdegnpbokjaaDoorW.PrintMore
set_option linter.unusedVariables false
set_option linter.unusedSimpArgs false
theorem FnExactSha256 (l : List Int) (h : l.length ≤ 1048576) : laws_toByteS.f 1048600 l = some l ∧ laws_eqByteS.f 1048600 l l = some true :=
  ⟨laws_toByteS_eq l (by omega) _ (by omega), laws_eqByteS_refl l (by omega) _ (by omega)⟩

end Go.Proofs.YtlopdegnpbokjaaDoor.Pure
namespace Go.Proofs.YtlopdegnpbokjaaDoor.fnExactSha256
open Go.ChangeShapes Go.WideShapes Go.ChangeAt Go.RowKit Go.Proofs.YtlopdegnpbokjaaDoorW.PrintWords Go.Proofs.YtlopdegnpbokjaaDoor.F
open Go.ChangeMaps (open_string shut_string)
set_option linter.unusedVariables false
theorem laidOut : laidOutB Tryd.prog = true := by kernel_rfl
theorem own : ownKnob Tryd.prog.godebug = none := by kernel_rfl
theorem bytes_of_trod {H : Type} {enc : TypeId × Value → H} {W : World} {sp : Nat → Bool} {hd : Bool} {fuel : Nat} {cs : List Value} {x : DataW H × List MemPlace}
    (h : DataW.trod enc Tryd.prog W 0 sp hd fuel 22 cs = some x) :
    ∃ (A : Option Addr) (cap : Nat) (l : List Int), cs = [.slice A l.length cap] ∧ l.length ≤ cap ∧ l.length ≤ maxLen ∧ Kd.C (Kd.int .u8) W A l.length l ∧ ∀ n ∈ l, (Lit.int .u8 n).wf = true := by
  rcases open_ints Tryd.underlying22 Tryd.underlying5 (by kernel_rfl) h with ⟨hcs, _⟩ | ⟨x, len, c, zs, hcs, _, hl, hm, hz, _, hc, hs⟩
  · exact ⟨none, 0, [], hcs, Nat.le_refl _, Nat.zero_le _, Kd.C_of_reads (d := (0 : Int)) (enc := Value.int .u8) (h1 := fun _ => rfl) ⟨rfl, by simp, (fun h => absurd h (by simp))⟩, fun s hs => by cases hs⟩
  · have hzl : len ≤ zs.length := by rw [hz]; split <;> omega
    have hlen : (zs.take len).length = len := by rw [List.length_take]; omega
    refine ⟨some x, c, zs.take len, by rw [hlen]; exact hcs, by omega, by omega, Kd.C_of_reads (d := (0 : Int)) (enc := Value.int .u8) (h1 := fun _ => rfl) ⟨rfl, by unfold maxLen at hm; omega, fun _ => ⟨x, rfl, fun j hj => ?_⟩⟩, fun s h => hs s (List.mem_of_mem_take h)⟩
    rw [hc j (by omega)]
    have hj2 : j < len := by omega
    simp [List.getD_eq_getElem?_getD, hj2]

set_option maxHeartbeats 4000000 in
set_option maxRecDepth 100000 in
theorem lifted (os : Os) (started : os.Started) (H : Type) (enc : TypeId × Value → H) :
    ReturnsInHanded {} Tryd.checked os 3 .any (fun w args => (Rows.fnExactSha256Spec.pre enc Tryd.prog Tryd.f3 [] false w args ∧ laidMetH Tryd.prog (XGlob.laidF (H := Unit)) w) ∧ sizedMet enc Tryd.prog Tryd.f3 (OpenSpec.ofChange Rows.fnExactSha256Spec) false w args) (Rows.fnExactSha256Spec.post enc Tryd.prog Tryd.f3 false true false false) := by
  refine returnsInHanded_of_change_and (C := Tryd.checked) (X := fun w _ => laidMetH Tryd.prog (XGlob.laidF (H := Unit)) w) (fun _ _ _ hh h => h.of_heap hh) own started (by kernel_rfl) Tryd.func3
    (ChangeSpec.witness_shaped (enc := enc) (C := Tryd.checked) (os := os) (X := fun w _ => laidMetH Tryd.prog (XGlob.laidF (H := Unit)) w) false (World.doorLaid Tryd.prog 84 os) #[.slice none 0 0] 8 rfl (World.shaped_of_RefB (by kernel_rfl) (by kernel_rfl)) (by kernel_rfl) (by kernel_rfl) (by kernel_rfl) (XGlob.door_met os _)) ?_
  intro W base args ds gs before hval0 hW hcnd hsz0 hL _
  have hval : ∀ (j : Nat) t v, Tryd.f3.params[j]? = some t → args[j]? = some v → Value.okWide Tryd.prog W .any base t v := hval0
  have hW' := hW
  obtain ⟨p, q, hA0, hV, rfl, hfz, hnd⟩ := hW
  have hA : DataW.TrodAll enc Tryd.prog W 0 (fun _ => true) true Tryd.f3.params.toList args.toList ds p := hA0
  rw [Tryd.params3] at hA hval
  obtain ⟨v0, vs0, d0, ds0, p0, q0, hargs, rfl, rfl, h0, r0⟩ := trodAll_cons hA
  obtain ⟨rfl, rfl, rfl⟩ := trodAll_nil r0
  obtain rfl : args = #[v0] := by cases args; simp_all
  have hV2 := hV
  obtain ⟨gg, tt, cs, fuel, dg, pg, rfl, hg1, hg2, hg3, hg4, rfl⟩ := trodVars_one hV
  obtain ⟨A0, len0, cap0, rfl⟩ := okWide_slice Tryd.underlying22 (hval 0 22 v0 rfl rfl)
  have k0 := h0
  have lt0 : ∀ x ∈ p0, x.block < W.heap.size := by obtain ⟨m, hm⟩ := k0; exact DataW.trod_lt m _ _ _ hm
  obtain ⟨l, hl1, hl2, hl3, hl4⟩ : ∃ l : List Int, l.length = len0 ∧ len0 ≤ cap0 ∧ l.length ≤ maxLen ∧ Kd.C (Kd.int .u8) W A0 l.length l := by
    obtain ⟨fuel, hf⟩ := h0
    obtain ⟨A, c, l, e, g1, g2, g3, _⟩ := bytes_of_trod hf
    simp [Value.cells] at e
    obtain ⟨rfl, rfl, rfl⟩ := e
    exact ⟨l, rfl, g1, g2, g3⟩
  clear hA0 hval0 hsz0
  subst hl1
  refine (F.laws_FnExactSha256.calls 1048600 A0 cap0 l W hl4 hl2 (XGlob.glob_of_laid hL) (fun h => (Pure.FnExactSha256 l h).1) (fun h => (Pure.FnExactSha256 l h).2)).mono fun e W' ⟨he, bel⟩ => ?_
  subst he
  exact ⟨_, rfl, _, _, _, [], _, _, hW', trodAll_mk1 (shut_bool Tryd.underlying4 _), (trodAll_cons_mk (Below.trod laidOut (by kernel_rfl) (of_decide_eq_true (by kernel_rfl)) k0 bel lt0) trodAll_mk0), bel.trodVars laidOut (by kernel_rfl) hV2, bel.frame _, fun h => by cases h⟩
theorem over : Rows.fnExactSha256Row.holds Tryd.pinned (OpenSpec.ofChange Rows.fnExactSha256Spec) :=
  OpenClaim.holds_of_wide 3 Tryd.f3 rfl rfl rfl rfl rfl rfl rfl ⟨rfl, rfl, rfl, rfl, rfl⟩ rfl rfl rfl rfl rfl (by kernel_rfl) Tryd.func3 (by kernel_rfl)
    (of_decide_eq_true (by kernel_rfl)) (by unfold Func.isWrapper; first | (rw [if_pos (by decide +kernel)]; kernel_rfl) | (rw [if_neg (by decide +kernel)]; exact ⟨rfl, rfl⟩))
    (fun os started H enc _ => lifted os started H enc)
end Go.Proofs.YtlopdegnpbokjaaDoor.fnExactSha256
namespace Go.Proofs.YtlopdegnpbokjaaDoor
open Go
/-- The tied card. -/
theorem fnExactSha256_holds : Rows.FnExactSha256CardSaid :=
  Claim7.holds_tied_plain_at .later [] [.data] true (true, "535d5252aa46a48e2724c013d8b923874e6ab50824057fdea8731cb3f073d611") false
    fnExactSha256.over (fun _ h => by cases h) (by kernel_rfl) (fun _ h => by cases h) fnExactSha256_row_tie rfl ⟨rfl, rfl⟩ (by kernel_rfl) rfl
    (fun f fn hf hfn => by
      obtain rfl : f = 3 := Option.some.inj ((show Tryd.prog.funcNamed "loop.example/s01858/laws.FnExactSha256" = some 3 by kernel_rfl).symm.trans hf) |>.symm
      obtain rfl : fn = Tryd.f3 := (Option.some.inj (Tryd.func3.symm.trans hfn)).symm
      exact ⟨by kernel_rfl, fun j t ht => by
        have hall : (Tryd.f3.params.all fun u => !Tryd.prog.wantsStandIn u) = true := by kernel_rfl
        have hm := Array.all_eq_true'.1 hall t (Array.mem_of_getElem? ht)
        exact (show Tryd.prog.wantsStandIn t = false by simpa using hm)⟩)
    (by kernel_rfl)
#print axioms fnExactSha256_holds
end Go.Proofs.YtlopdegnpbokjaaDoor
