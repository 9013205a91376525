/- Part 12 of 13 of the proof of FnExactSign: what each Go function on its way computes, that the Go code does just this, and what the law says of it. No condition beyond the statement's own. -/
import Derived.Test.YtblpeegpjjcemaaDoorMFnExactSign11
namespace Go.Proofs.YtblpeegpjjcemaaDoor.F
open Go Go.Shelf Go.RowKit Go.Proofs.YtblpeegpjjcemaaDoorW.PrintWords Go.Proofs.YtblpeegpjjcemaaDoorW.PrintLast Go.Proofs.YtblpeegpjjcemaaDoorW.PrintMore
attribute [local go_sem] max2_int min2_int max_two min_two max_three min_three max_four min_four   -- for this text's walks alone
set_option linter.unusedVariables false
set_option linter.unusedSimpArgs false

/-! ### laws_markByteS: function 17 -/
def laws_markByteS.l0 : Nat → List Int → Int → Int → Option (Int × List Int)
  | 0, _, _, _ => none
  | k + 1, x0, x1, x5 => if x5 < (x0.length : Int) then (if 0 ≤ x5 then (laws_markByteS.l0 k (x0.set (x5 : Int).toNat ((x1) % 256)) (wrap64 (x1 + 1)) (wrap64 (x5 + 1))) else (none)) else (some (x1, x0))
def laws_markByteS.f (k : Nat) (l0 : List Int) (a1 : Int) : Option (Int × List Int) := laws_markByteS.l0 k l0 a1 0
theorem laws_markByteS.mono_l : ∀ k, (∀ y0 y1 y2, LeO (laws_markByteS.l0 k y0 y1 y2) (laws_markByteS.l0 (k + 1) y0 y1 y2))
  | 0 => fun _ _ _ r h => by simp [laws_markByteS.l0] at h
  | k + 1 => by
    have ih0 := laws_markByteS.mono_l k
    · intro y0 y1 y2
      unfold laws_markByteS.l0
      repeat' first
      | (with_reducible exact ih0 _ _ _)
      | (with_reducible exact LeO.refl _)
      | (with_reducible exact LeO.none _)
      | (with_reducible refine LeO.ite ?_ ?_)
      | (with_reducible refine LeO.bind ?_ (fun _ => ?_))
      | exact ih0 _ _ _
      | exact LeO.none _
      | refine LeO.ite ?_ ?_
      | refine LeO.bind ?_ (fun _ => ?_)
theorem laws_markByteS.mono : ∀ a0 a1 k, LeO (laws_markByteS.f k a0 a1) (laws_markByteS.f (k + 1) a0 a1) := by
  intro a0 a1 k
  have ih0 := laws_markByteS.mono_l k
  unfold laws_markByteS.f
  repeat' first
      | (with_reducible exact ih0 _ _ _)
      | (with_reducible exact LeO.refl _)
      | (with_reducible exact LeO.none _)
      | (with_reducible refine LeO.ite ?_ ?_)
      | (with_reducible refine LeO.bind ?_ (fun _ => ?_))
      | exact ih0 _ _ _
      | exact LeO.none _
      | refine LeO.ite ?_ ?_
      | refine LeO.bind ?_ (fun _ => ?_)
set_option maxHeartbeats 8000000 in
set_option maxRecDepth 100000 in
theorem laws_markByteS.calls (k : Nat) (P0_ : Nat → Prop) (u9000_ : Value) (l0 : List Int) (a1 : Int) (r1 : Int) (r2 : List Int) (w0 w : World) (hB : Below w0.heap.size w0 w) (ho0 : KB.R (Kd.int .u8) 5 w w0.heap.size P0_ u9000_ l0) (h : laws_markByteS.f k l0 a1 = some (r1, r2)) :
    Calls Tryd.prog 17 #[u9000_, .int .i64 a1] w fun e w' => e = .returned (.int .i64 r1) ∧ KB.R (Kd.int .u8) 5 w' w0.heap.size (fun k_ => (P0_ k_ ∨ w.heap.size ≤ k_)) u9000_ r2 ∧ Below w0.heap.size w0 w' ∧ Kept w w' (fun k_ => P0_ k_) := by
  have HO0 := Aside0.mk (show KB.R (Kd.int .u8) 5 w w0.heap.size (fun k_ => (P0_ k_ ∨ w.heap.size ≤ k_)) u9000_ l0 from KB.R_mono ho0 (fun k_ hk => (.inl hk)))
  have HK := Aside0.mk (Kept.refl w (fun k_ => P0_ k_))
  have HW0 := Aside0.mk hB.size
  have HB := Aside0.mk hB
  clear hB
  have H : (laws_markByteS.l0 k l0 a1 0) = some (r1, r2) := h
  clear h
  have H' := Aside0.mk H
  clear H
  go_enter Tryd.func17, Tryd.ntmps17
  go_wp2
  go_loopg [1, 5] k (fun kq v1 v5 w' => ∃ (x0_1 : List Int) (x1_1 : Int) (x5_1 : Int), v1 = .int .i64 x1_1 ∧ v5 = .int .i64 x5_1 ∧ Aside0 (laws_markByteS.l0 kq x0_1 x1_1 x5_1 = some (r1, r2)) ∧ Aside0 (kq ≤ k) ∧ Aside0 (KB.R (Kd.int .u8) 5 w' w0.heap.size (fun k_ => (P0_ k_ ∨ w.heap.size ≤ k_)) u9000_ x0_1) ∧ Aside0 (Kept w w' (fun k_ => P0_ k_)) ∧ Aside0 (Below w0.heap.size w0 w'))
  case atStart => exact ⟨(l0), (a1), (0), (by first | rfl | (simp; done) | (simp [*]; done)), (by first | rfl | (simp; done) | (simp [*]; done)), H', ⟨Nat.le_refl _⟩, ⟨by (with_reducible repeat (first | apply KB.R_alloc | apply KB.R_drewN | apply KB.R_drew)); exact HO0.out⟩, ⟨by repeat (first | (with_reducible first | exact HK.out | apply Kept.alloc | apply Kept.drewN | apply Kept.drew) | exact HK.out)⟩, ⟨by repeat (first | (with_reducible first | exact HB.out | apply below_alloc | apply pw_below_drewN | apply below_drew1) | exact HB.out)⟩⟩
  case round =>
    clear H'
    try clear c1
    try clear p2
    obtain ⟨x0_1, x1_1, x5_1, rfl, rfl, HA, HK1, HO_0, HK, HB⟩ := hrel
    cases gk with
    | zero => exact absurd HA.out (by simp [laws_markByteS.l0])
    | succ k1 =>
      have H := HA.out
      clear HA
      simp only [laws_markByteS.l0] at H
      by_cases c3 : x5_1 < (x0_1.length : Int)
      · rw [if_pos c3] at H
        have c3b0 : decide (x5_1 < (x0_1.length : Int)) = true := decide_eq_true c3
        clear c3
        by_cases c4 : 0 ≤ x5_1
        · rw [if_pos c4] at H
          have c4b0 : decide (0 ≤ x5_1) = true := decide_eq_true c4
          clear c4
          obtain ⟨y101, hy101⟩ : ∃ y_ : List Int, y_ = (x0_1.set (x5_1 : Int).toNat ((x1_1) % 256)) := ⟨_, rfl⟩
          replace H : (laws_markByteS.l0 k1 y101 (wrap64 (x1_1 + 1)) (wrap64 (x5_1 + 1))) = some (r1, r2) := by first | (rw [hy101]; with_reducible exact H) | (have H2_ := (Option.bind_some _ _).symm.trans H; rw [hy101]; with_reducible exact H2_) | (have H2_ := (Option.bind_some _ _).symm.trans H; with_reducible exact H2_) | with_reducible exact H | (rw [hy101]; exact H) | exact H
          have Ny101 := Aside0.mk hy101
          clear hy101
          have H' := Aside0.mk H
          clear H
          obtain ⟨Ao6, co6, eo6⟩ := KB.R_slice HO_0.out
          subst eo6
          have p5 : 0 ≤ (x5_1 : Int) := of_decide_eq_true (by first | (with_reducible assumption) | assumption)
          have q5 : (x5_1 : Int) < ((x0_1.length : Int) : Int) := of_decide_eq_true (by first | (with_reducible assumption) | assumption)
          obtain ⟨go5, co5, eo5, gb5, gl5, cl5, HG5⟩ := KB.R_form HO_0.out (by omega)
          (first | cases eo5 | (injection eo5 with ea_ en_ ec_; (first | subst ea_ | (injection ea_ with ea_; subst ea_)); subst ec_; clear en_))
          have GB5 := Aside0.mk gb5
          have GG5 := Aside0.mk HG5
          clear gb5 gl5 HG5
          have HMgo5 := Aside0.mk (show (P0_ go5 ∨ w.heap.size ≤ go5) from (HO_0.out.1 _ rfl))
          obtain ⟨hx5_0, hf5_0⟩ := KB.R_celln 0 HO_0.out (x5_1 : Int) p5 q5
          replace p5 := eq_true p5
          replace q5 := eq_true q5
          have HP7 := KB.R_putg HO_0.out (x5_1 : Int) ((x1_1) % 256)
          go_wp2_with (first | ((with_reducible refine gate_store (t := 5) (p := 16) rfl ?_); refine store_event (t := 5) (p := 16) (v := ?vo_w8) (w1 := (wr.setCell ⟨go5, (x5_1 : Int).toNat, none⟩ (.int .u8 ((x1_1) % 256)))) ?hg ?ho ?hn ?hr ?_; (case ho => rfl); (case hg => rfl); (case hn => rfl); (case hr => first | (go_simp; done) | (go_simp; rfl)); intro w8 hw; have hg : wr.grownBy w8 (some go5) := (by rw [hw]; exact HP7.2); have hp_ : KB.R (Kd.int .u8) 5 w8 w0.heap.size (fun k_ => (P0_ k_ ∨ w.heap.size ≤ k_)) (.slice (some ⟨go5, 0, none⟩) x0_1.length co6) y101 := (by rw [hw, Ny101.out]; exact HP7.1); clear HP7; have n0_ := Aside0.mk (hp_); have n1_ := Aside0.mk ((by rw [hw]; exact below_set (HB.out) GB5.out : Below w0.heap.size w0 w8)); have n2_ := Aside0.mk (Kept.of_grown (S := (fun k_ => P0_ k_)) hg (by repeat (first | (with_reducible first | exact HK.out | apply Kept.alloc | apply Kept.drewN | apply Kept.drew) | exact HK.out)) (fun k_ e_ => (HO_0.out.1 k_ e_))); clear HO_0; clear HB; clear HK; have HO_0 := n0_; have HB := n1_; have HK := n2_; clear n0_ n1_ n2_; clear hg hw hp_))
          go_roundg k1
          case measure => have := HK1.out; omega
          case rel => exact ⟨(y101), (wrap64 (x1_1 + 1)), (wrap64 (x5_1 + 1)), (by first | rfl | (simp; done) | (simp [*]; done)), (by first | rfl | (simp; done) | (simp [*]; done)), H', ⟨by have := HK1.out; omega⟩, ⟨by (with_reducible repeat (first | apply KB.R_alloc | apply KB.R_drewN | apply KB.R_drew)); exact HO_0.out⟩, ⟨by repeat (first | (with_reducible first | exact HK.out | apply Kept.alloc | apply Kept.drewN | apply Kept.drew) | exact HK.out)⟩, ⟨by repeat (first | (with_reducible first | exact HB.out | apply below_alloc | apply pw_below_drewN | apply below_drew1) | exact HB.out)⟩⟩
        · rw [if_neg c4] at H
          exact absurd H (by simp)
      · rw [if_neg c3] at H
        have c3b0 : decide (x5_1 < (x0_1.length : Int)) = false := decide_eq_false c3
        clear c3
        simp only [Option.some.injEq, Prod.mk.injEq] at H
        obtain ⟨rfl, rfl⟩ := H
        obtain ⟨Ao9, co9, eo9⟩ := KB.R_slice HO_0.out
        subst eo9
        go_wp2
        go_ret
        exact ⟨by first | rfl | (simp [errW_none, errW_some] <;> rfl) | (simp [*, errW_none, errW_some] <;> rfl), by (with_reducible repeat (first | apply KB.R_alloc | apply KB.R_drewN | apply KB.R_drew)); exact HO_0.out, by repeat (first | (with_reducible first | exact HB.out | apply below_alloc | apply pw_below_drewN | apply below_drew1) | exact HB.out), by repeat (first | (with_reducible first | exact HK.out | apply Kept.alloc | apply Kept.drewN | apply Kept.drew) | exact HK.out)⟩

end Go.Proofs.YtblpeegpjjcemaaDoor.F
namespace Go.Proofs.YtblpeegpjjcemaaDoor.F
open Go Go.Shelf Go.RowKit Go.Proofs.YtblpeegpjjcemaaDoorW.PrintWords Go.Proofs.YtblpeegpjjcemaaDoorW.PrintLast Go.Proofs.YtblpeegpjjcemaaDoorW.PrintMore
attribute [local go_sem] max2_int min2_int max_two min_two max_three min_three max_four min_four   -- for this text's walks alone
set_option linter.unusedVariables false
set_option linter.unusedSimpArgs false

/-! ### laws_heldByteS: function 18 -/
def laws_heldByteS.l0 : Nat → List Int → Int → Int → Option (Int)
  | 0, _, _, _ => none
  | k + 1, x0, x1, x5 => if x5 < (x0.length : Int) then (if 0 ≤ x5 then (if (rd x0 x5) = ((x1) % 256) then (laws_heldByteS.l0 k x0 (wrap64 (x1 + 1)) (wrap64 (x5 + 1))) else (some (-1))) else (none)) else (some x1)
def laws_heldByteS.f (k : Nat) (l0 : List Int) (a1 : Int) : Option (Int) := laws_heldByteS.l0 k l0 a1 0
theorem laws_heldByteS.mono_l : ∀ k, (∀ y0 y1 y2, LeO (laws_heldByteS.l0 k y0 y1 y2) (laws_heldByteS.l0 (k + 1) y0 y1 y2))
  | 0 => fun _ _ _ r h => by simp [laws_heldByteS.l0] at h
  | k + 1 => by
    have ih0 := laws_heldByteS.mono_l k
    · intro y0 y1 y2
      unfold laws_heldByteS.l0
      repeat' first
      | (with_reducible exact ih0 _ _ _)
      | (with_reducible exact LeO.refl _)
      | (with_reducible exact LeO.none _)
      | (with_reducible refine LeO.ite ?_ ?_)
      | (with_reducible refine LeO.bind ?_ (fun _ => ?_))
      | exact ih0 _ _ _
      | exact LeO.none _
      | refine LeO.ite ?_ ?_
      | refine LeO.bind ?_ (fun _ => ?_)
theorem laws_heldByteS.mono : ∀ a0 a1 k, LeO (laws_heldByteS.f k a0 a1) (laws_heldByteS.f (k + 1) a0 a1) := by
  intro a0 a1 k
  have ih0 := laws_heldByteS.mono_l k
  unfold laws_heldByteS.f
  repeat' first
      | (with_reducible exact ih0 _ _ _)
      | (with_reducible exact LeO.refl _)
      | (with_reducible exact LeO.none _)
      | (with_reducible refine LeO.ite ?_ ?_)
      | (with_reducible refine LeO.bind ?_ (fun _ => ?_))
      | exact ih0 _ _ _
      | exact LeO.none _
      | refine LeO.ite ?_ ?_
      | refine LeO.bind ?_ (fun _ => ?_)
set_option maxHeartbeats 8000000 in
set_option maxRecDepth 100000 in
theorem laws_heldByteS.calls (k : Nat) (A0 : Option Addr) (c0 : Nat) (l0 : List Int) (a1 : Int) (r : Int) (w : World) (hr0 : Kd.C (Kd.int .u8) w A0 l0.length l0) (hc0 : l0.length ≤ c0) (h : laws_heldByteS.f k l0 a1 = some r) :
    Calls Tryd.prog 18 #[.slice A0 l0.length c0, .int .i64 a1] w fun e w' => e = .returned (.int .i64 r) ∧ Drawn0 w w' := by
  have HR0 := Aside0.mk hr0
  have HC0 := Aside0.mk hc0
  clear hr0 hc0
  have H : (laws_heldByteS.l0 k l0 a1 0) = some r := h
  clear h
  have H' := Aside0.mk H
  clear H
  go_enter Tryd.func18, Tryd.ntmps18
  go_wp2
  go_loopg [1, 5] k (fun kq v1 v5 w' => ∃ (x1_1 : Int) (x5_1 : Int), v1 = .int .i64 x1_1 ∧ v5 = .int .i64 x5_1 ∧ Aside0 (laws_heldByteS.l0 kq l0 x1_1 x5_1 = some r) ∧ Aside0 (kq ≤ k) ∧ Drawn0 w w')
  case atStart => exact ⟨(a1), (0), (by first | rfl | (simp; done) | (simp [*]; done)), (by first | rfl | (simp; done) | (simp [*]; done)), H', ⟨Nat.le_refl _⟩, by repeat (first | exact Drawn0.refl _ | apply Drawn0.step)⟩
  case round =>
    clear H'
    try clear c1
    try clear p2
    obtain ⟨x1_1, x5_1, rfl, rfl, HA, HK1, ⟨m1, rfl⟩⟩ := hrel
    cases gk with
    | zero => exact absurd HA.out (by simp [laws_heldByteS.l0])
    | succ k1 =>
      have H := HA.out
      clear HA
      simp only [laws_heldByteS.l0] at H
      by_cases c3 : x5_1 < (l0.length : Int)
      · rw [if_pos c3] at H
        have c3b0 : decide (x5_1 < (l0.length : Int)) = true := decide_eq_true c3
        clear c3
        by_cases c4 : 0 ≤ x5_1
        · rw [if_pos c4] at H
          have c4b0 : decide (0 ≤ x5_1) = true := decide_eq_true c4
          clear c4
          by_cases c5 : (rd l0 x5_1) = ((x1_1) % 256)
          · rw [if_pos c5] at H
            have c5b0 : ((rd l0 x5_1) == ((x1_1) % 256)) = true := beq_iff_eq.mpr c5
            have c5b1 : ((rd l0 x5_1) != ((x1_1) % 256)) = false := bne_eq_false_iff_eq.mpr c5
            clear c5
            have H' := Aside0.mk H
            clear H
            have p101 : 0 ≤ (x5_1 : Int) := of_decide_eq_true (by first | (with_reducible assumption) | assumption)
            have q101 : x5_1 < (l0.length : Int) := of_decide_eq_true (by first | (with_reducible assumption) | assumption)
            obtain ⟨ad101, e101, hx101_0⟩ := Kd.at_int HR0.out x5_1 p101 q101
            cases e101
            replace p101 := eq_true p101
            replace q101 := eq_true q101
            go_wp2
            go_roundg k1
            case measure => have := HK1.out; omega
            case rel => exact ⟨(wrap64 (x1_1 + 1)), (wrap64 (x5_1 + 1)), (by first | rfl | (simp; done) | (simp [*]; done)), (by first | rfl | (simp; done) | (simp [*]; done)), H', ⟨by have := HK1.out; omega⟩, by repeat (first | exact Drawn0.refl _ | apply Drawn0.step)⟩
          · rw [if_neg c5] at H
            have c5b0 : ((rd l0 x5_1) == ((x1_1) % 256)) = false := beq_eq_false_iff_ne.mpr c5
            have c5b1 : ((rd l0 x5_1) != ((x1_1) % 256)) = true := bne_iff_ne.mpr c5
            obtain rfl := Option.some.inj H
            have p101 : 0 ≤ (x5_1 : Int) := of_decide_eq_true (by first | (with_reducible assumption) | assumption)
            have q101 : x5_1 < (l0.length : Int) := of_decide_eq_true (by first | (with_reducible assumption) | assumption)
            obtain ⟨ad101, e101, hx101_0⟩ := Kd.at_int HR0.out x5_1 p101 q101
            cases e101
            replace p101 := eq_true p101
            replace q101 := eq_true q101
            go_wp2
            go_ret
            exact ⟨by first | rfl | (simp; done) | (simp [*]; done), by repeat (first | exact Drawn0.refl _ | apply Drawn0.step)⟩
        · rw [if_neg c4] at H
          exact absurd H (by simp)
      · rw [if_neg c3] at H
        have c3b0 : decide (x5_1 < (l0.length : Int)) = false := decide_eq_false c3
        clear c3
        obtain rfl := Option.some.inj H
        go_wp2
        go_ret
        exact ⟨by first | rfl | (simp; done) | (simp [*]; done), by repeat (first | exact Drawn0.refl _ | apply Drawn0.step)⟩

end Go.Proofs.YtblpeegpjjcemaaDoor.F
namespace Go.Proofs.YtblpeegpjjcemaaDoor.F
open Go Go.Shelf Go.RowKit Go.Proofs.YtblpeegpjjcemaaDoorW.PrintWords Go.Proofs.YtblpeegpjjcemaaDoorW.PrintLast Go.Proofs.YtblpeegpjjcemaaDoorW.PrintMore
attribute [local go_sem] max2_int min2_int max_two min_two max_three min_three max_four min_four   -- for this text's walks alone
set_option linter.unusedVariables false
set_option linter.unusedSimpArgs false

/-! ### laws_FnExactSign: function 5 -/
mutual
def laws_FnExactSign.j0 : Nat → List Int → Int → ByteArray → List Int → Int → List Int → List Int → Int → Bool → ByteArray → ByteArray → Option (Bool)
  | 0, _, _, _, _, _, _, _, _, _, _, _ => none
  | k + 1, x0, x2, x3, x10, x11, x12, x13, x14, x60, x102000, x102001 => if x60 = true then (some false) else ((laws_toByteS.f k x0).bind fun t122 => ((laws_eqByteS.f k x12 t122).bind fun t125 => (if t125 = true then ((laws_markByteS.f k x12 1).bind fun bt126 => (if bt126.1 < 0 then (laws_FnExactSign.j1 k x0 x2 x3 x10 x11 x13 true x102000 x102001) else ((laws_eqByteS.f k x13 x10).bind fun t128 => (if t128 = true then (laws_FnExactSign.j1 k x0 x2 x3 x10 x11 x13 (x14 != x11) x102000 x102001) else (laws_FnExactSign.j1 k x0 x2 x3 x10 x11 x13 true x102000 x102001))))) else (some false))))
def laws_FnExactSign.j1 : Nat → List Int → Int → ByteArray → List Int → Int → List Int → Bool → ByteArray → ByteArray → Option (Bool)
  | 0, _, _, _, _, _, _, _, _, _ => none
  | k + 1, x0, x2, x3, x10, x11, x13, x81, x102000, x102001 => if x81 = true then (some false) else ((laws_markByteS.f k x13 1).bind fun bt129 => ((laws_heldByteS.f k bt129.2 1).bind fun t131 => (if t131 < 0 then (some false) else (if t131 = bt129.1 then ((laws_toByteS.f k x0).bind fun t132 => ((laws_toKey.f x102000 x102001).bind fun bt135 => ((impl_Sign.f k t132 bt135.1 bt135.2 x2 x3).bind fun bt137 => ((laws_eqByteS.f k bt137.1 x10).bind fun t141 => (if t141 = true then (laws_FnExactSign.j2 k bt129.2 bt129.1 (bt137.2 != x11)) else (laws_FnExactSign.j2 k bt129.2 bt129.1 true)))))) else (some false)))))
def laws_FnExactSign.j2 : Nat → List Int → Int → Bool → Option (Bool)
  | 0, _, _, _ => none
  | k + 1, x13, x16, x111 => if x111 = true then (some false) else ((laws_heldByteS.f k x13 1).bind fun t142 => (if t142 < 0 then (some false) else (if t142 = x16 then (some true) else (some false))))
end
def laws_FnExactSign.f (k : Nat) (l0 : List Int) (a1_0 : ByteArray) (a1_1 : ByteArray) (a2 : Int) (a3 : ByteArray) : Option (Bool) := if (l0.length : Int) > 1048576 then (some true) else (if (a3.size : Int) > 1048576 then (some true) else ((laws_szKey.f a1_0 a1_1 1048576).bind fun t102 => (if t102 < 0 then (some true) else ((laws_toByteS.f k l0).bind fun t103 => ((laws_toKey.f a1_0 a1_1).bind fun bt106 => ((spec_Sign.f k t103 bt106.1 bt106.2 a2 a3).bind fun bt108 => ((laws_toByteS.f k l0).bind fun t112 => ((laws_toKey.f a1_0 a1_1).bind fun bt115 => ((impl_Sign.f k t112 bt115.1 bt115.2 a2 a3).bind fun bt117 => ((laws_eqByteS.f k bt117.1 bt108.1).bind fun t121 => (if t121 = true then (laws_FnExactSign.j0 k l0 a2 a3 bt108.1 bt108.2 t112 bt117.1 bt117.2 (bt117.2 != bt108.2) a1_0 a1_1) else (laws_FnExactSign.j0 k l0 a2 a3 bt108.1 bt108.2 t112 bt117.1 bt117.2 true a1_0 a1_1))))))))))))
theorem laws_FnExactSign.mono_l : ∀ k, (∀ y0 y1 y2 y3 y4 y5 y6 y7 y8 y9 y10, LeO (laws_FnExactSign.j0 k y0 y1 y2 y3 y4 y5 y6 y7 y8 y9 y10) (laws_FnExactSign.j0 (k + 1) y0 y1 y2 y3 y4 y5 y6 y7 y8 y9 y10)) ∧ (∀ y0 y1 y2 y3 y4 y5 y6 y7 y8, LeO (laws_FnExactSign.j1 k y0 y1 y2 y3 y4 y5 y6 y7 y8) (laws_FnExactSign.j1 (k + 1) y0 y1 y2 y3 y4 y5 y6 y7 y8)) ∧ (∀ y0 y1 y2, LeO (laws_FnExactSign.j2 k y0 y1 y2) (laws_FnExactSign.j2 (k + 1) y0 y1 y2))
  | 0 => ⟨fun _ _ _ _ _ _ _ _ _ _ _ r h => by simp [laws_FnExactSign.j0] at h, fun _ _ _ _ _ _ _ _ _ r h => by simp [laws_FnExactSign.j1] at h, fun _ _ _ r h => by simp [laws_FnExactSign.j2] at h⟩
  | k + 1 => by
    obtain ⟨ih0, ih1, ih2⟩ := laws_FnExactSign.mono_l k
    refine ⟨?_, ?_, ?_⟩
    · intro y0 y1 y2 y3 y4 y5 y6 y7 y8 y9 y10
      unfold laws_FnExactSign.j0
      repeat' first
      | (with_reducible exact ih0 _ _ _ _ _ _ _ _ _ _ _)
      | (with_reducible exact ih1 _ _ _ _ _ _ _ _ _)
      | (with_reducible exact ih2 _ _ _)
      | (with_reducible exact impl_Sign.mono _ _ _ _ _ _)
      | (with_reducible exact laws_eqByteS.mono _ _ _)
      | (with_reducible exact laws_heldByteS.mono _ _ _)
      | (with_reducible exact laws_markByteS.mono _ _ _)
      | (with_reducible exact laws_toByteS.mono _ _)
      | (with_reducible exact spec_Sign.mono _ _ _ _ _ _)
      | (with_reducible exact LeO.refl _)
      | (with_reducible exact LeO.none _)
      | (with_reducible refine LeO.ite ?_ ?_)
      | (with_reducible refine LeO.bind ?_ (fun _ => ?_))
      | exact ih0 _ _ _ _ _ _ _ _ _ _ _
      | exact ih1 _ _ _ _ _ _ _ _ _
      | exact ih2 _ _ _
      | exact impl_Sign.mono _ _ _ _ _ _
      | exact laws_eqByteS.mono _ _ _
      | exact laws_heldByteS.mono _ _ _
      | exact laws_markByteS.mono _ _ _
      | exact laws_toByteS.mono _ _
      | exact spec_Sign.mono _ _ _ _ _ _
      | exact LeO.none _
      | refine LeO.ite ?_ ?_
      | refine LeO.bind ?_ (fun _ => ?_)
    · intro y0 y1 y2 y3 y4 y5 y6 y7 y8
      unfold laws_FnExactSign.j1
      repeat' first
      | (with_reducible exact ih0 _ _ _ _ _ _ _ _ _ _ _)
      | (with_reducible exact ih1 _ _ _ _ _ _ _ _ _)
      | (with_reducible exact ih2 _ _ _)
      | (with_reducible exact impl_Sign.mono _ _ _ _ _ _)
      | (with_reducible exact laws_eqByteS.mono _ _ _)
      | (with_reducible exact laws_heldByteS.mono _ _ _)
      | (with_reducible exact laws_markByteS.mono _ _ _)
      | (with_reducible exact laws_toByteS.mono _ _)
      | (with_reducible exact spec_Sign.mono _ _ _ _ _ _)
      | (with_reducible exact LeO.refl _)
      | (with_reducible exact LeO.none _)
      | (with_reducible refine LeO.ite ?_ ?_)
      | (with_reducible refine LeO.bind ?_ (fun _ => ?_))
      | exact ih0 _ _ _ _ _ _ _ _ _ _ _
      | exact ih1 _ _ _ _ _ _ _ _ _
      | exact ih2 _ _ _
      | exact impl_Sign.mono _ _ _ _ _ _
      | exact laws_eqByteS.mono _ _ _
      | exact laws_heldByteS.mono _ _ _
      | exact laws_markByteS.mono _ _ _
      | exact laws_toByteS.mono _ _
      | exact spec_Sign.mono _ _ _ _ _ _
      | exact LeO.none _
      | refine LeO.ite ?_ ?_
      | refine LeO.bind ?_ (fun _ => ?_)
    · intro y0 y1 y2
      unfold laws_FnExactSign.j2
      repeat' first
      | (with_reducible exact ih0 _ _ _ _ _ _ _ _ _ _ _)
      | (with_reducible exact ih1 _ _ _ _ _ _ _ _ _)
      | (with_reducible exact ih2 _ _ _)
      | (with_reducible exact impl_Sign.mono _ _ _ _ _ _)
      | (with_reducible exact laws_eqByteS.mono _ _ _)
      | (with_reducible exact laws_heldByteS.mono _ _ _)
      | (with_reducible exact laws_markByteS.mono _ _ _)
      | (with_reducible exact laws_toByteS.mono _ _)
      | (with_reducible exact spec_Sign.mono _ _ _ _ _ _)
      | (with_reducible exact LeO.refl _)
      | (with_reducible exact LeO.none _)
      | (with_reducible refine LeO.ite ?_ ?_)
      | (with_reducible refine LeO.bind ?_ (fun _ => ?_))
      | exact ih0 _ _ _ _ _ _ _ _ _ _ _
      | exact ih1 _ _ _ _ _ _ _ _ _
      | exact ih2 _ _ _
      | exact impl_Sign.mono _ _ _ _ _ _
      | exact laws_eqByteS.mono _ _ _
      | exact laws_heldByteS.mono _ _ _
      | exact laws_markByteS.mono _ _ _
      | exact laws_toByteS.mono _ _
      | exact spec_Sign.mono _ _ _ _ _ _
      | exact LeO.none _
      | refine LeO.ite ?_ ?_
      | refine LeO.bind ?_ (fun _ => ?_)
theorem laws_FnExactSign.mono : ∀ a0 a1 a2 a3 a4 k, LeO (laws_FnExactSign.f k a0 a1 a2 a3 a4) (laws_FnExactSign.f (k + 1) a0 a1 a2 a3 a4) := by
  intro a0 a1 a2 a3 a4 k
  obtain ⟨ih0, ih1, ih2⟩ := laws_FnExactSign.mono_l k
  unfold laws_FnExactSign.f
  repeat' first
      | (with_reducible exact ih0 _ _ _ _ _ _ _ _ _ _ _)
      | (with_reducible exact ih1 _ _ _ _ _ _ _ _ _)
      | (with_reducible exact ih2 _ _ _)
      | (with_reducible exact impl_Sign.mono _ _ _ _ _ _)
      | (with_reducible exact laws_eqByteS.mono _ _ _)
      | (with_reducible exact laws_heldByteS.mono _ _ _)
      | (with_reducible exact laws_markByteS.mono _ _ _)
      | (with_reducible exact laws_toByteS.mono _ _)
      | (with_reducible exact spec_Sign.mono _ _ _ _ _ _)
      | (with_reducible exact LeO.refl _)
      | (with_reducible exact LeO.none _)
      | (with_reducible refine LeO.ite ?_ ?_)
      | (with_reducible refine LeO.bind ?_ (fun _ => ?_))
      | exact ih0 _ _ _ _ _ _ _ _ _ _ _
      | exact ih1 _ _ _ _ _ _ _ _ _
      | exact ih2 _ _ _
      | exact impl_Sign.mono _ _ _ _ _ _
      | exact laws_eqByteS.mono _ _ _
      | exact laws_heldByteS.mono _ _ _
      | exact laws_markByteS.mono _ _ _
      | exact laws_toByteS.mono _ _
      | exact spec_Sign.mono _ _ _ _ _ _
      | exact LeO.none _
      | refine LeO.ite ?_ ?_
      | refine LeO.bind ?_ (fun _ => ?_)
def laws_FnExactSign.T9 : Bool × List (List Nat × List Nat) := (true, [([], []), ([0], [0]), ([], []), ([2, 1], [2]), ([], []), ([], []), ([1, 3, 4, 5, 3], [1, 3, 4, 5]), ([6], [6]), ([7], [7]), ([7], [7]), ([8, 6, 0, 1, 2, 3, 4, 5, 6, 7, 8], [8]), ([9, 10, 0, 1, 2, 3, 4, 5, 6, 7, 8, 9, 10], [9])])
def laws_FnExactSign.B9 : List Nat := [0, 1, 0, 7, 0, 0, 63, 127, 255, 255, 511, 2047]
theorem laws_FnExactSign.tab9 : rtab .any (opsOf Tryd.f5 9) = laws_FnExactSign.T9 := by kernel_rfl
theorem laws_FnExactSign.bits9 : waitsOk laws_FnExactSign.T9.2 laws_FnExactSign.B9 = true := by kernel_rfl
def laws_FnExactSign.T28 : Bool × List (List Nat × List Nat) := (true, [([], []), ([0], [0]), ([], []), ([2, 1], [2]), ([], []), ([], []), ([1, 3, 4, 5, 3], [1, 3, 4, 5]), ([6], [6]), ([7], [7]), ([7], [7]), ([8, 6, 0, 1, 2, 3, 4, 5, 6, 7, 8], [8]), ([9, 10, 0, 1, 2, 3, 4, 5, 6, 7, 8, 9, 10], [9])])
def laws_FnExactSign.B28 : List Nat := [0, 1, 0, 7, 0, 0, 63, 127, 255, 255, 511, 2047]
theorem laws_FnExactSign.tab28 : rtab .any (opsOf Tryd.f5 28) = laws_FnExactSign.T28 := by kernel_rfl
theorem laws_FnExactSign.bits28 : waitsOk laws_FnExactSign.T28.2 laws_FnExactSign.B28 = true := by kernel_rfl
set_option maxHeartbeats 8000000 in
set_option maxRecDepth 100000 in
theorem laws_FnExactSign.calls (k : Nat) (A0 : Option Addr) (c0 : Nat) (l0 : List Int) (a1_0 : ByteArray) (a1_1 : ByteArray) (a2 : Int) (a3 : ByteArray) (r : Bool) (w : World) (hr0 : Kd.C (Kd.int .u8) w A0 l0.length l0) (hc0 : l0.length ≤ c0) (h : laws_FnExactSign.f k l0 a1_0 a1_1 a2 a3 = some r) (hGK : GlobK w) :
    Calls Tryd.prog 5 #[.slice A0 l0.length c0, .agg #[.string a1_0, .string a1_1], .int .i64 a2, .string a3] w fun e w' => e = .returned (.bool r) ∧ Below w.heap.size w w' := by
  have HGK := Aside0.mk hGK
  clear hGK
  have hu31 := Tryd.underlying31
  have HR0 := Aside0.mk hr0
  have HC0 := Aside0.mk hc0
  clear hr0 hc0
  have HB := Aside0.mk (Below.refl w.heap.size w)
  have H : (if (l0.length : Int) > 1048576 then (some true) else (if (a3.size : Int) > 1048576 then (some true) else ((laws_szKey.f a1_0 a1_1 1048576).bind fun t102 => (if t102 < 0 then (some true) else ((laws_toByteS.f k l0).bind fun t103 => ((laws_toKey.f a1_0 a1_1).bind fun bt106 => ((spec_Sign.f k t103 bt106.1 bt106.2 a2 a3).bind fun bt108 => ((laws_toByteS.f k l0).bind fun t112 => ((laws_toKey.f a1_0 a1_1).bind fun bt115 => ((impl_Sign.f k t112 bt115.1 bt115.2 a2 a3).bind fun bt117 => ((laws_eqByteS.f k bt117.1 bt108.1).bind fun t121 => (if t121 = true then (laws_FnExactSign.j0 k l0 a2 a3 bt108.1 bt108.2 t112 bt117.1 bt117.2 (bt117.2 != bt108.2) a1_0 a1_1) else (laws_FnExactSign.j0 k l0 a2 a3 bt108.1 bt108.2 t112 bt117.1 bt117.2 true a1_0 a1_1))))))))))))) = some r := h
  clear h
  by_cases c5 : (l0.length : Int) > 1048576
  · rw [if_pos c5] at H
    have c5b0 : decide (1048576 < (l0.length : Int)) = true := decide_eq_true c5
    have c5b1 : decide (1048576 < l0.length) = true := decide_eq_true (by omega)
    clear c5
    obtain rfl := Option.some.inj H
    go_enter Tryd.func5, Tryd.ntmps5
    go_wp2_with (first | ((with_reducible refine gate_dst (N := 5) rfl ?_); refine box_event ?hg (N := 5) ?hd (cs := #[.string a1_0, .string a1_1]) (t := 31) ?hr ?_; (case hd => rfl); (case hg => rfl); (case hr => first | (go_simp; done) | (go_simp; rfl)); intro gb101 hg w6 hbox hb; have n0_ := Aside0.mk (below_step (by repeat (first | (with_reducible first | exact HB.out | apply below_alloc | apply pw_below_drewN | apply below_drew1) | exact HB.out)) hb); have n1_ := Aside0.mk (hbox); have n2_ := Aside0.mk ((by rw [hg]; exact (below_size (by repeat (first | (with_reducible first | exact HB.out | apply below_alloc | apply pw_below_drewN | apply below_drew1) | exact HB.out))) : w.heap.size ≤ gb101)); have n3_ := Aside0.mk ((by rw [hg]; exact (below_size (by repeat (first | (with_reducible first | exact HB.out | apply below_alloc | apply pw_below_drewN | apply below_drew1) | exact HB.out))) : w.heap.size ≤ gb101)); clear HB; have HB := n0_; have BK101 := n1_; have GW101 := n2_; have GE101 := n3_; clear n0_ n1_ n2_ n3_; clear hb hbox hg))
    go_ret
    exact ⟨by first | rfl | (simp [errW_none, errW_some] <;> rfl) | (simp [*, errW_none, errW_some] <;> rfl), by repeat (first | (with_reducible first | exact HB.out | apply below_alloc | apply pw_below_drewN | apply below_drew1 | refine below_set ?_ GE101.out) | exact HB.out)⟩
  · rw [if_neg c5] at H
    have c5b0 : decide (1048576 < (l0.length : Int)) = false := decide_eq_false c5
    have c5b1 : decide (1048576 < l0.length) = false := decide_eq_false (by omega)
    clear c5
    by_cases c7 : (a3.size : Int) > 1048576
    · rw [if_pos c7] at H
      have c7b0 : decide (1048576 < (a3.size : Int)) = true := decide_eq_true c7
      have c7b1 : decide (1048576 < a3.size) = true := decide_eq_true (by omega)
      clear c7
      obtain rfl := Option.some.inj H
      go_enter Tryd.func5, Tryd.ntmps5
      go_wp2_with (first | ((with_reducible refine gate_dst (N := 5) rfl ?_); refine box_event ?hg (N := 5) ?hd (cs := #[.string a1_0, .string a1_1]) (t := 31) ?hr ?_; (case hd => rfl); (case hg => rfl); (case hr => first | (go_simp; done) | (go_simp; rfl)); intro gb101 hg w8 hbox hb; have n0_ := Aside0.mk (below_step (by repeat (first | (with_reducible first | exact HB.out | apply below_alloc | apply pw_below_drewN | apply below_drew1) | exact HB.out)) hb); have n1_ := Aside0.mk (hbox); have n2_ := Aside0.mk ((by rw [hg]; exact (below_size (by repeat (first | (with_reducible first | exact HB.out | apply below_alloc | apply pw_below_drewN | apply below_drew1) | exact HB.out))) : w.heap.size ≤ gb101)); have n3_ := Aside0.mk ((by rw [hg]; exact (below_size (by repeat (first | (with_reducible first | exact HB.out | apply below_alloc | apply pw_below_drewN | apply below_drew1) | exact HB.out))) : w.heap.size ≤ gb101)); clear HB; have HB := n0_; have BK101 := n1_; have GW101 := n2_; have GE101 := n3_; clear n0_ n1_ n2_ n3_; clear hb hbox hg))
      go_ret
      exact ⟨by first | rfl | (simp [errW_none, errW_some] <;> rfl) | (simp [*, errW_none, errW_some] <;> rfl), by repeat (first | (with_reducible first | exact HB.out | apply below_alloc | apply pw_below_drewN | apply below_drew1 | refine below_set ?_ GE101.out) | exact HB.out)⟩
    · rw [if_neg c7] at H
      have c7b0 : decide (1048576 < (a3.size : Int)) = false := decide_eq_false c7
      have c7b1 : decide (1048576 < a3.size) = false := decide_eq_false (by omega)
      clear c7
      replace H := Option.bind_eq_some_iff.mp H
      obtain ⟨t102, A90, H⟩ := H
      replace H : (if t102 < 0 then (some true) else ((laws_toByteS.f k l0).bind fun t103 => ((laws_toKey.f a1_0 a1_1).bind fun bt106 => ((spec_Sign.f k t103 bt106.1 bt106.2 a2 a3).bind fun bt108 => ((laws_toByteS.f k l0).bind fun t112 => ((laws_toKey.f a1_0 a1_1).bind fun bt115 => ((impl_Sign.f k t112 bt115.1 bt115.2 a2 a3).bind fun bt117 => ((laws_eqByteS.f k bt117.1 bt108.1).bind fun t121 => (if t121 = true then (laws_FnExactSign.j0 k l0 a2 a3 bt108.1 bt108.2 t112 bt117.1 bt117.2 (bt117.2 != bt108.2) a1_0 a1_1) else (laws_FnExactSign.j0 k l0 a2 a3 bt108.1 bt108.2 t112 bt117.1 bt117.2 true a1_0 a1_1)))))))))) = some r := H
      have A9 := Aside0.mk A90
      clear A90
      by_cases c10 : t102 < 0
      · rw [if_pos c10] at H
        have c10b0 : decide (t102 < 0) = true := decide_eq_true c10
        clear c10
        obtain rfl := Option.some.inj H
        go_enter Tryd.func5, Tryd.ntmps5
        go_wp2_with (first | ((with_reducible refine gate_dst (N := 5) rfl ?_); refine box_event ?hg (N := 5) ?hd (cs := #[.string a1_0, .string a1_1]) (t := 31) ?hr ?_; (case hd => rfl); (case hg => rfl); (case hr => first | (go_simp; done) | (go_simp; rfl)); intro gb101 hg w11 hbox hb; have n0_ := Aside0.mk (below_step (by repeat (first | (with_reducible first | exact HB.out | apply below_alloc | apply pw_below_drewN | apply below_drew1) | exact HB.out)) hb); have n1_ := Aside0.mk (hbox); have n2_ := Aside0.mk ((by rw [hg]; exact (below_size (by repeat (first | (with_reducible first | exact HB.out | apply below_alloc | apply pw_below_drewN | apply below_drew1) | exact HB.out))) : w.heap.size ≤ gb101)); have n3_ := Aside0.mk ((by rw [hg]; exact (below_size (by repeat (first | (with_reducible first | exact HB.out | apply below_alloc | apply pw_below_drewN | apply below_drew1) | exact HB.out))) : w.heap.size ≤ gb101)); clear HB; have HB := n0_; have BK101 := n1_; have GW101 := n2_; have GE101 := n3_; clear n0_ n1_ n2_ n3_; clear hb hbox hg; have hcz12_0 : w11.cell? ⟨gb101, 0, none⟩ = some (.string a1_0) := (blk_cell BK101.out 0).trans rfl; have hcz12_1 : w11.cell? ⟨gb101, 1, none⟩ = some (.string a1_1) := (blk_cell BK101.out 1).trans rfl; have hfz12_0 := blk_frozen BK101.out 0; have hfz12_1 := blk_frozen BK101.out 1) | ((with_reducible refine gate_callee (f := 13) rfl ?_); refine goesL_ (some 28) rfl rfl Tryd.func13 (by kernel_rfl) rfl #[.agg #[.string a1_0, .string a1_1], .int .i64 1048576] rfl (by (try simp only [List.map_toArray, List.map_cons, List.map_nil]); first | done | rfl | (simp only [List.length_drop, List.length_take]; rfl)) ?_; (with_reducible refine (laws_szKey.calls a1_0 a1_1 1048576 t102 _ A9.out).mono ?_); rintro e w13 ⟨rfl, hb⟩; refine ⟨_, rfl, ?_⟩; have n0_ := Aside0.mk (blk_below (g := gb101) (o := .cells #[.string a1_0, .string a1_1] 31 (0, 0)) (by (with_reducible repeat (first | refine blk_drewN ?_ _ | refine blk_drew ?_ | refine blk_alloc ?_ _)); exact BK101.out) hb); have n1_ := Aside0.mk (below_step (by repeat (first | (with_reducible first | exact HB.out | apply below_alloc | apply pw_below_drewN | apply below_drew1 | refine below_set ?_ GE101.out) | exact HB.out)) hb); clear BK101; clear HB; have BK101 := n0_; have HB := n1_; clear n0_ n1_; (try clear hb); (try clear hb2); (try clear hk); (try clear hi)))
        go_ret
        exact ⟨by first | rfl | (simp [errW_none, errW_some] <;> rfl) | (simp [*, errW_none, errW_some] <;> rfl), by repeat (first | (with_reducible first | exact HB.out | apply below_alloc | apply pw_below_drewN | apply below_drew1 | refine below_set ?_ GE101.out) | exact HB.out)⟩
      · rw [if_neg c10] at H
        have c10b0 : decide (t102 < 0) = false := decide_eq_false c10
        clear c10
        replace H := Option.bind_eq_some_iff.mp H
        obtain ⟨t103, A140, H⟩ := H
        replace H : ((laws_toKey.f a1_0 a1_1).bind fun bt106 => ((spec_Sign.f k t103 bt106.1 bt106.2 a2 a3).bind fun bt108 => ((laws_toByteS.f k l0).bind fun t112 => ((laws_toKey.f a1_0 a1_1).bind fun bt115 => ((impl_Sign.f k t112 bt115.1 bt115.2 a2 a3).bind fun bt117 => ((laws_eqByteS.f k bt117.1 bt108.1).bind fun t121 => (if t121 = true then (laws_FnExactSign.j0 k l0 a2 a3 bt108.1 bt108.2 t112 bt117.1 bt117.2 (bt117.2 != bt108.2) a1_0 a1_1) else (laws_FnExactSign.j0 k l0 a2 a3 bt108.1 bt108.2 t112 bt117.1 bt117.2 true a1_0 a1_1)))))))) = some r := H
        have A14 := Aside0.mk A140
        clear A140
        replace H := Option.bind_eq_some_iff.mp H
        obtain ⟨⟨t106, t107⟩, A150, H⟩ := H
        replace H : ((spec_Sign.f k t103 t106 t107 a2 a3).bind fun bt108 => ((laws_toByteS.f k l0).bind fun t112 => ((laws_toKey.f a1_0 a1_1).bind fun bt115 => ((impl_Sign.f k t112 bt115.1 bt115.2 a2 a3).bind fun bt117 => ((laws_eqByteS.f k bt117.1 bt108.1).bind fun t121 => (if t121 = true then (laws_FnExactSign.j0 k l0 a2 a3 bt108.1 bt108.2 t112 bt117.1 bt117.2 (bt117.2 != bt108.2) a1_0 a1_1) else (laws_FnExactSign.j0 k l0 a2 a3 bt108.1 bt108.2 t112 bt117.1 bt117.2 true a1_0 a1_1))))))) = some r := H
        have A15 := Aside0.mk A150
        clear A150
        replace H := Option.bind_eq_some_iff.mp H
        obtain ⟨⟨t108, t111⟩, A160, H⟩ := H
        replace H : ((laws_toByteS.f k l0).bind fun t112 => ((laws_toKey.f a1_0 a1_1).bind fun bt115 => ((impl_Sign.f k t112 bt115.1 bt115.2 a2 a3).bind fun bt117 => ((laws_eqByteS.f k bt117.1 t108).bind fun t121 => (if t121 = true then (laws_FnExactSign.j0 k l0 a2 a3 t108 t111 t112 bt117.1 bt117.2 (bt117.2 != t111) a1_0 a1_1) else (laws_FnExactSign.j0 k l0 a2 a3 t108 t111 t112 bt117.1 bt117.2 true a1_0 a1_1)))))) = some r := H
        have A16 := Aside0.mk A160
        clear A160
        replace H := Option.bind_eq_some_iff.mp H
        obtain ⟨t112, A170, H⟩ := H
        replace H : ((laws_toKey.f a1_0 a1_1).bind fun bt115 => ((impl_Sign.f k t112 bt115.1 bt115.2 a2 a3).bind fun bt117 => ((laws_eqByteS.f k bt117.1 t108).bind fun t121 => (if t121 = true then (laws_FnExactSign.j0 k l0 a2 a3 t108 t111 t112 bt117.1 bt117.2 (bt117.2 != t111) a1_0 a1_1) else (laws_FnExactSign.j0 k l0 a2 a3 t108 t111 t112 bt117.1 bt117.2 true a1_0 a1_1))))) = some r := H
        have A17 := Aside0.mk A170
        clear A170
        replace H := Option.bind_eq_some_iff.mp H
        obtain ⟨⟨t115, t116⟩, A180, H⟩ := H
        replace H : ((impl_Sign.f k t112 t115 t116 a2 a3).bind fun bt117 => ((laws_eqByteS.f k bt117.1 t108).bind fun t121 => (if t121 = true then (laws_FnExactSign.j0 k l0 a2 a3 t108 t111 t112 bt117.1 bt117.2 (bt117.2 != t111) a1_0 a1_1) else (laws_FnExactSign.j0 k l0 a2 a3 t108 t111 t112 bt117.1 bt117.2 true a1_0 a1_1)))) = some r := H
        have A18 := Aside0.mk A180
        clear A180
        replace H := Option.bind_eq_some_iff.mp H
        obtain ⟨⟨t117, t120⟩, A190, H⟩ := H
        replace H : ((laws_eqByteS.f k t117 t108).bind fun t121 => (if t121 = true then (laws_FnExactSign.j0 k l0 a2 a3 t108 t111 t112 t117 t120 (t120 != t111) a1_0 a1_1) else (laws_FnExactSign.j0 k l0 a2 a3 t108 t111 t112 t117 t120 true a1_0 a1_1))) = some r := H
        have A19 := Aside0.mk A190
        clear A190
        have HC20 := Aside0.mk H
        clear H
        go_enter Tryd.func5, Tryd.ntmps5
        try go_wp2_with (first | ((with_reducible refine gate_dst (N := 5) rfl ?_); refine box_event ?hg (N := 5) ?hd (cs := #[.string a1_0, .string a1_1]) (t := 31) ?hr ?_; (case hd => rfl); (case hg => rfl); (case hr => first | (go_simp; done) | (go_simp; rfl)); intro gb101 hg w21 hbox hb; have n0_ := Aside0.mk (below_step (by repeat (first | (with_reducible first | exact HB.out | apply below_alloc | apply pw_below_drewN | apply below_drew1) | exact HB.out)) hb); have n1_ := Aside0.mk (hbox); have n2_ := Aside0.mk ((by rw [hg]; exact (below_size (by repeat (first | (with_reducible first | exact HB.out | apply below_alloc | apply pw_below_drewN | apply below_drew1) | exact HB.out))) : w.heap.size ≤ gb101)); have n3_ := Aside0.mk ((by rw [hg]; exact (below_size (by repeat (first | (with_reducible first | exact HB.out | apply below_alloc | apply pw_below_drewN | apply below_drew1) | exact HB.out))) : w.heap.size ≤ gb101)); clear HB; have HB := n0_; have BK101 := n1_; have GW101 := n2_; have GE101 := n3_; clear n0_ n1_ n2_ n3_; clear hb hbox hg; have hcz22_0 : w21.cell? ⟨gb101, 0, none⟩ = some (.string a1_0) := (blk_cell BK101.out 0).trans rfl; have hcz22_1 : w21.cell? ⟨gb101, 1, none⟩ = some (.string a1_1) := (blk_cell BK101.out 1).trans rfl; have hfz22_0 := blk_frozen BK101.out 0; have hfz22_1 := blk_frozen BK101.out 1) | ((with_reducible refine gate_callee (f := 13) rfl ?_); refine goesL_ (some 28) rfl rfl Tryd.func13 (by kernel_rfl) rfl #[.agg #[.string a1_0, .string a1_1], .int .i64 1048576] rfl (by (try simp only [List.map_toArray, List.map_cons, List.map_nil]); first | done | rfl | (simp only [List.length_drop, List.length_take]; rfl)) ?_; (with_reducible refine (laws_szKey.calls a1_0 a1_1 1048576 t102 _ A9.out).mono ?_); rintro e w23 ⟨rfl, hb⟩; refine ⟨_, rfl, ?_⟩; have n0_ := Aside0.mk (blk_below (g := gb101) (o := .cells #[.string a1_0, .string a1_1] 31 (0, 0)) (by (with_reducible repeat (first | refine blk_drewN ?_ _ | refine blk_drew ?_ | refine blk_alloc ?_ _)); exact BK101.out) hb); have n1_ := Aside0.mk (below_step (by repeat (first | (with_reducible first | exact HB.out | apply below_alloc | apply pw_below_drewN | apply below_drew1 | refine below_set ?_ GE101.out) | exact HB.out)) hb); clear BK101; clear HB; have BK101 := n0_; have HB := n1_; clear n0_ n1_; (try clear hb); (try clear hb2); (try clear hk); (try clear hi)))
        have n0_ := Aside0.mk (blk_drew BK101.out)
        have n1_ := Aside0.mk (below_drew1 HB.out)
        clear BK101
        clear HB
        have BK101 := n0_
        have HB := n1_
        clear n0_ n1_
        refine start_ (n := 12) (S := fun w' => w'.cell? ⟨gb101, 0, none⟩ = some (.string a1_0) ∧ w'.cell? ⟨gb101, 1, none⟩ = some (.string a1_1)) (ds := []) #[false, false, false, false, false, false, false, false, false, false, false, false] (by kernel_rfl) rfl rfl ⟨(blk_cell BK101.out 0).trans rfl, (blk_cell BK101.out 1).trans rfl⟩ (fun hHeld => ?_); refine with_tabW laws_FnExactSign.tab9 laws_FnExactSign.bits9 (fun HT_ HW_ => ?_)
        generalize w23.drew = w24 at BK101 HB hHeld ⊢
        refine pure_ (i := 0) (N := some 32) (v := ?_) (a' := ?_) #[true, false, false, false, false, false, false, false, false, false, false, false] rfl rfl (any_of HT_.out (by kernel_rfl)) (fun _ _ _ h => h) (Or.inl ⟨by rfl, ?_⟩) ?_ ?_
        rotate_left
        · intro w'
          go_simp
          with_reducible rfl
        rotate_left
        · simp only [Act.put, List.setIfInBounds_toArray, List.set_cons_zero, List.set_cons_succ, i64_w, i32_w]
          rfl
        refine pure_ (i := 4) (N := some 36) (v := ?_) (a' := ?_) #[true, false, false, false, true, false, false, false, false, false, false, false] rfl rfl (any_of HT_.out (by kernel_rfl)) (fun _ _ _ h => h) (Or.inl ⟨by rfl, ?_⟩) ?_ ?_
        rotate_left
        · intro w'
          go_simp
          with_reducible rfl
        rotate_left
        · simp only [Act.put, List.setIfInBounds_toArray, List.set_cons_zero, List.set_cons_succ, i64_w, i32_w]
          rfl
        refine pure_ (i := 5) (N := some 37) (v := ?_) (a' := ?_) #[true, false, false, false, true, true, false, false, false, false, false, false] rfl rfl (any_of HT_.out (by kernel_rfl)) (fun _ _ _ h => h) (Or.inl ⟨by rfl, ?_⟩) ?_ ?_
        rotate_left
        · intro w'
          go_simp
          with_reducible rfl
        rotate_left
        · simp only [Act.put, List.setIfInBounds_toArray, List.set_cons_zero, List.set_cons_succ, i64_w, i32_w]
          rfl
        refine take_ (i := 2) (N := some 34) (v := ?_) (a' := ?_) #[true, false, true, false, true, true, false, false, false, false, false, false] rfl rfl (take_ofW HT_.out HW_.out (by kernel_rfl)) (fun _ _ _ h => h) (Or.inl ⟨by rfl, ?_⟩) hHeld ?_ ?_
        rotate_left
        · rintro w' ⟨s0, s1⟩
          go_simp
          with_reducible rfl
        rotate_left
        · simp only [Act.put, List.setIfInBounds_toArray, List.set_cons_zero, List.set_cons_succ, i64_w, i32_w]
          rfl
        refine one_ (i := 1) (N := some 33) #[true, true, true, false, true, true, false, false, false, false, false, false] rfl rfl (one_of HT_.out (by kernel_rfl)) (by decide) (fun K hK => ?_)
        refine goes_ Tryd.func7 (by kernel_rfl) rfl #[.slice A0 l0.length c0] (by rfl) rfl rfl (by (try simp only [List.map_toArray, List.map_cons, List.map_nil]); first | done | rfl | (simp only [List.length_drop, List.length_take]; rfl)) ?_
        with_reducible refine (laws_toByteS.calls k _ _ l0 t103 _ ?side1 ?side2 A14.out).mono ?_
        (case side1 => repeat (first | exact (Kd.C_below HR0.out HB.out) | (with_reducible refine Kd.C_alloc ?_ _) | (with_reducible refine Kd.C_drewN ?_ _) | (with_reducible refine Kd.C_drew ?_)))
        (case side2 => exact HC0.out)
        rintro e w25 ⟨v104, rfl, ho0, hb⟩
        replace ho0 := KB.of_R (d := Kd.int .u8) ho0 (Kd.R_reads_max ho0)
        refine ⟨_, rfl, ?_⟩
        have n0_ := Aside0.mk (KB.R_lower ho0 (below_size (by repeat (first | (with_reducible first | exact HB.out | apply below_alloc | apply pw_below_drewN | apply below_drew1 | refine below_set ?_ GE101.out) | exact HB.out))))
        have n1_ := Aside0.mk (blk_below (g := gb101) (o := .cells #[.string a1_0, .string a1_1] 31 (0, 0)) (by (with_reducible repeat (first | refine blk_drewN ?_ _ | refine blk_drew ?_ | refine blk_alloc ?_ _)); exact BK101.out) hb)
        have n2_ := Aside0.mk (below_step (by repeat (first | (with_reducible first | exact HB.out | apply below_alloc | apply pw_below_drewN | apply below_drew1 | refine below_set ?_ GE101.out) | exact HB.out)) hb)
        clear BK101
        clear HB
        have HO105 := n0_
        have BK101 := n1_
        have HB := n2_
        clear n0_ n1_ n2_
        (try clear hb)
        (try clear hb2)
        (try clear hk)
        (try clear hi)
        (try clear ho0)
        refine hK.out _ _ ⟨(blk_cell BK101.out 0).trans rfl, (blk_cell BK101.out 1).trans rfl⟩ (fun hHeld => ?_)
        clear hK K
        refine norm_ (a' := ?_) ?_ ?_
        rotate_left
        · show Act.put _ (some 33) _ = _
          simp only [Act.put, List.setIfInBounds_toArray, List.set_cons_zero, List.set_cons_succ, i64_w, i32_w]
          rfl
        refine one_ (i := 3) (N := some 35) #[true, true, true, true, true, true, false, false, false, false, false, false] rfl rfl (one_of HT_.out (by kernel_rfl)) (by decide) (fun K hK => ?_)
        refine goes_ Tryd.func15 (by kernel_rfl) rfl #[.agg #[.string a1_0, .string a1_1]] (by rfl) rfl rfl (by (try simp only [List.map_toArray, List.map_cons, List.map_nil]); first | done | rfl | (simp only [List.length_drop, List.length_take]; rfl)) ?_
        with_reducible refine (laws_toKey.calls a1_0 a1_1 t106 t107 _ A15.out).mono ?_
        rintro e w26 ⟨rfl, hb⟩
        refine ⟨_, rfl, ?_⟩
        have n0_ := Aside0.mk (KB.R_below (by (with_reducible repeat (first | apply KB.R_alloc | apply KB.R_drewN | apply KB.R_drew)); exact HO105.out) hb)
        have n1_ := Aside0.mk (blk_below (g := gb101) (o := .cells #[.string a1_0, .string a1_1] 31 (0, 0)) (by (with_reducible repeat (first | refine blk_drewN ?_ _ | refine blk_drew ?_ | refine blk_alloc ?_ _)); exact BK101.out) hb)
        have n2_ := Aside0.mk (below_step (by repeat (first | (with_reducible first | exact HB.out | apply below_alloc | apply pw_below_drewN | apply below_drew1 | refine below_set ?_ GE101.out) | exact HB.out)) hb)
        clear HO105
        clear BK101
        clear HB
        have HO105 := n0_
        have BK101 := n1_
        have HB := n2_
        clear n0_ n1_ n2_
        (try clear hb)
        (try clear hb2)
        (try clear hk)
        (try clear hi)
        obtain ⟨Ao27, co27, eo27⟩ := KB.R_slice HO105.out
        (first | subst eo27 | (injection eo27 with f1_ f2_ f3_; have f4_ := f1_.symm; have f5_ := f3_.symm; clear f1_ f2_ f3_; subst f4_; subst f5_))
        refine hK.out _ _ ⟨(blk_cell BK101.out 0).trans rfl, (blk_cell BK101.out 1).trans rfl⟩ (fun hHeld => ?_)
        clear hK K
        refine norm_ (a' := ?_) ?_ ?_
        rotate_left
        · show Act.put _ (some 35) _ = _
          simp only [Act.put, List.setIfInBounds_toArray, List.set_cons_zero, List.set_cons_succ, i64_w, i32_w]
          rfl
        refine one_ (i := 6) (N := some 38) #[true, true, true, true, true, true, true, false, false, false, false, false] rfl rfl (one_of HT_.out (by kernel_rfl)) (by decide) (fun K hK => ?_)
        refine goes_ Tryd.func14 (by kernel_rfl) rfl #[.slice Ao27 t103.length co27, .agg #[.string t106, .string t107], .int .i64 a2, .string a3] (by rfl) rfl rfl (by (try simp only [List.map_toArray, List.map_cons, List.map_nil]); first | done | rfl | (simp only [List.length_drop, List.length_take]; rfl)) ?_
        with_reducible refine (spec_Sign.calls k _ _ t103 t106 t107 a2 a3 t108 t111 _ ?side1 ?side2 A16.out).mono ?_
        (case side1 => repeat (first | exact (KB.R_reads' HO105.out).2.2 | (with_reducible refine Kd.C_alloc ?_ _) | (with_reducible refine Kd.C_drewN ?_ _) | (with_reducible refine Kd.C_drew ?_)))
        (case side2 => exact (KB.R_reads' HO105.out).2.1)
        rintro e w28 ⟨v109, rfl, ho0, hb⟩
        refine ⟨_, rfl, ?_⟩
        have n0_ := Aside0.mk (KB.R_elder' (by (with_reducible repeat (first | apply KB.R_alloc | apply KB.R_drewN | apply KB.R_drew)); exact HO105.out) (KB.R_base ho0) hb)
        have n1_ := Aside0.mk (KB.R_lower (KB.R_new' ho0 (KB.R_lt (by (with_reducible repeat (first | apply KB.R_alloc | apply KB.R_drewN | apply KB.R_drew)); exact HO105.out))) (below_size (by repeat (first | (with_reducible first | exact HB.out | apply below_alloc | apply pw_below_drewN | apply below_drew1 | refine below_set ?_ GE101.out) | exact HB.out))))
        have n2_ := Aside0.mk (blk_below (g := gb101) (o := .cells #[.string a1_0, .string a1_1] 31 (0, 0)) (by (with_reducible repeat (first | refine blk_drewN ?_ _ | refine blk_drew ?_ | refine blk_alloc ?_ _)); exact BK101.out) hb)
        have n3_ := Aside0.mk (below_step (by repeat (first | (with_reducible first | exact HB.out | apply below_alloc | apply pw_below_drewN | apply below_drew1 | refine below_set ?_ GE101.out) | exact HB.out)) hb)
        clear HO105
        clear BK101
        clear HB
        have HO105 := n0_
        have HO110 := n1_
        have BK101 := n2_
        have HB := n3_
        clear n0_ n1_ n2_ n3_
        (try clear hb)
        (try clear hb2)
        (try clear hk)
        (try clear hi)
        (try clear ho0)
        refine hK.out _ _ ⟨(blk_cell BK101.out 0).trans rfl, (blk_cell BK101.out 1).trans rfl⟩ (fun hHeld => ?_)
        clear hK K
        refine norm_ (a' := ?_) ?_ ?_
        rotate_left
        · show Act.put _ (some 38) _ = _
          simp only [Act.put, List.setIfInBounds_toArray, List.set_cons_zero, List.set_cons_succ, i64_w, i32_w]
          rfl
        refine pure_ (i := 7) (N := some 31) (v := ?_) (a' := ?_) #[true, true, true, true, true, true, true, true, false, false, false, false] rfl rfl (any_of HT_.out (by kernel_rfl)) (fun _ _ _ h => h) (Or.inl ⟨by rfl, ?_⟩) ?_ ?_
        rotate_left
        · intro w'
          go_simp
          with_reducible rfl
        rotate_left
        · simp only [Act.put, List.setIfInBounds_toArray, List.set_cons_zero, List.set_cons_succ, i64_w, i32_w]
          rfl
        refine pure_ (i := 8) (N := some 39) (v := ?_) (a' := ?_) #[true, true, true, true, true, true, true, true, true, false, false, false] rfl rfl (any_of HT_.out (by kernel_rfl)) (fun _ _ _ h => h) (Or.inl ⟨by rfl, ?_⟩) ?_ ?_
        rotate_left
        · intro w'
          go_simp
          with_reducible rfl
        rotate_left
        · simp only [Act.put, List.setIfInBounds_toArray, List.set_cons_zero, List.set_cons_succ, i64_w, i32_w]
          rfl
        refine pure_ (i := 9) (N := some 40) (v := ?_) (a' := ?_) #[true, true, true, true, true, true, true, true, true, true, false, false] rfl rfl (any_of HT_.out (by kernel_rfl)) (fun _ _ _ h => h) (Or.inl ⟨by rfl, ?_⟩) ?_ ?_
        rotate_left
        · intro w'
          go_simp
          with_reducible rfl
        rotate_left
        · simp only [Act.put, List.setIfInBounds_toArray, List.set_cons_zero, List.set_cons_succ, i64_w, i32_w]
          rfl
        refine pure_ (i := 10) (N := some 10) (v := ?_) (a' := ?_) #[true, true, true, true, true, true, true, true, true, true, true, false] rfl rfl (any_of HT_.out (by kernel_rfl)) (fun _ _ _ h => h) (Or.inl ⟨by rfl, ?_⟩) ?_ ?_
        rotate_left
        · intro w'
          go_simp
          with_reducible rfl
        rotate_left
        · simp only [Act.put, List.setIfInBounds_toArray, List.set_cons_zero, List.set_cons_succ, i64_w, i32_w]
          rfl
        refine pure_ (i := 11) (N := some 11) (v := ?_) (a' := ?_) #[true, true, true, true, true, true, true, true, true, true, true, true] rfl rfl (any_of HT_.out (by kernel_rfl)) (fun _ _ _ h => h) (Or.inl ⟨by rfl, ?_⟩) ?_ ?_
        rotate_left
        · intro w'
          go_simp
          with_reducible rfl
        rotate_left
        · simp only [Act.put, List.setIfInBounds_toArray, List.set_cons_zero, List.set_cons_succ, i64_w, i32_w]
          rfl
        refine done_ (done_of HT_.out (by kernel_rfl)) ?_
        go_upto_region 12 with (first | ((with_reducible refine gate_callee (f := 7) rfl ?_); refine goesL_ (some 42) rfl rfl Tryd.func7 (by kernel_rfl) rfl #[.slice A0 l0.length c0] rfl (by (try simp only [List.map_toArray, List.map_cons, List.map_nil]); first | done | rfl | (simp only [List.length_drop, List.length_take]; rfl)) ?_; (with_reducible refine (laws_toByteS.calls k _ _ l0 t112 _ ?side1 ?side2 A17.out).mono ?_); (case side1 => repeat (first | exact (Kd.C_below HR0.out HB.out) | (with_reducible refine Kd.C_alloc ?_ _) | (with_reducible refine Kd.C_drewN ?_ _) | (with_reducible refine Kd.C_drew ?_))); (case side2 => exact HC0.out); rintro e w29 ⟨v113, rfl, ho0_, hb⟩; have ho0 := KB.of_R (d := Kd.int .u8) ho0_ (Kd.R_reads_max ho0_); clear ho0_; refine ⟨_, rfl, ?_⟩; have n0_ := Aside0.mk (KB.R_elder' (by (with_reducible repeat (first | apply KB.R_alloc | apply KB.R_drewN | apply KB.R_drew)); exact HO105.out) (KB.R_base ho0) hb); have n1_ := Aside0.mk (KB.R_elder' (by (with_reducible repeat (first | apply KB.R_alloc | apply KB.R_drewN | apply KB.R_drew)); exact HO110.out) (KB.R_base ho0) hb); have n2_ := Aside0.mk (KB.R_lower (KB.R_new' (KB.R_new' ho0 (KB.R_lt (by (with_reducible repeat (first | apply KB.R_alloc | apply KB.R_drewN | apply KB.R_drew)); exact HO105.out))) (KB.R_lt (by (with_reducible repeat (first | apply KB.R_alloc | apply KB.R_drewN | apply KB.R_drew)); exact HO110.out))) (below_size (by repeat (first | (with_reducible first | exact HB.out | apply below_alloc | apply pw_below_drewN | apply below_drew1 | refine below_set ?_ GE101.out) | exact HB.out)))); have n3_ := Aside0.mk (blk_below (g := gb101) (o := .cells #[.string a1_0, .string a1_1] 31 (0, 0)) (by (with_reducible repeat (first | refine blk_drewN ?_ _ | refine blk_drew ?_ | refine blk_alloc ?_ _)); exact BK101.out) hb); have n4_ := Aside0.mk (below_step (by repeat (first | (with_reducible first | exact HB.out | apply below_alloc | apply pw_below_drewN | apply below_drew1 | refine below_set ?_ GE101.out) | exact HB.out)) hb); clear HO105; clear HO110; clear BK101; clear HB; have HO105 := n0_; have HO110 := n1_; have HO114 := n2_; have BK101 := n3_; have HB := n4_; clear n0_ n1_ n2_ n3_ n4_; (try clear hb); (try clear hb2); (try clear hk); (try clear hi); (try clear ho0); have hcz30_0 : w29.cell? ⟨gb101, 0, none⟩ = some (.string a1_0) := (blk_cell BK101.out 0).trans rfl; have hcz30_1 : w29.cell? ⟨gb101, 1, none⟩ = some (.string a1_1) := (blk_cell BK101.out 1).trans rfl; have hfz30_0 := blk_frozen BK101.out 0; have hfz30_1 := blk_frozen BK101.out 1) | ((with_reducible refine gate_callee (f := 15) rfl ?_); refine goesL_ (some 46) rfl rfl Tryd.func15 (by kernel_rfl) rfl #[.agg #[.string a1_0, .string a1_1]] rfl (by (try simp only [List.map_toArray, List.map_cons, List.map_nil]); first | done | rfl | (simp only [List.length_drop, List.length_take]; rfl)) ?_; (with_reducible refine (laws_toKey.calls a1_0 a1_1 t115 t116 _ A18.out).mono ?_); rintro e w31 ⟨rfl, hb⟩; refine ⟨_, rfl, ?_⟩; have n0_ := Aside0.mk (KB.R_below (by (with_reducible repeat (first | apply KB.R_alloc | apply KB.R_drewN | apply KB.R_drew)); exact HO105.out) hb); have n1_ := Aside0.mk (KB.R_below (by (with_reducible repeat (first | apply KB.R_alloc | apply KB.R_drewN | apply KB.R_drew)); exact HO110.out) hb); have n2_ := Aside0.mk (KB.R_below (by (with_reducible repeat (first | apply KB.R_alloc | apply KB.R_drewN | apply KB.R_drew)); exact HO114.out) hb); have n3_ := Aside0.mk (blk_below (g := gb101) (o := .cells #[.string a1_0, .string a1_1] 31 (0, 0)) (by (with_reducible repeat (first | refine blk_drewN ?_ _ | refine blk_drew ?_ | refine blk_alloc ?_ _)); exact BK101.out) hb); have n4_ := Aside0.mk (below_step (by repeat (first | (with_reducible first | exact HB.out | apply below_alloc | apply pw_below_drewN | apply below_drew1 | refine below_set ?_ GE101.out) | exact HB.out)) hb); clear HO105; clear HO110; clear HO114; clear BK101; clear HB; have HO105 := n0_; have HO110 := n1_; have HO114 := n2_; have BK101 := n3_; have HB := n4_; clear n0_ n1_ n2_ n3_ n4_; (try clear hb); (try clear hb2); (try clear hk); (try clear hi); obtain ⟨Ao32, co32, eo32⟩ := KB.R_slice HO114.out; subst eo32) | ((with_reducible refine gate_callee (f := 16) rfl ?_); refine goesL_ (some 49) rfl rfl Tryd.func16 (by kernel_rfl) rfl #[.slice Ao32 t112.length co32, .agg #[.string t115, .string t116], .int .i64 a2, .string a3] rfl (by (try simp only [List.map_toArray, List.map_cons, List.map_nil]); first | done | rfl | (simp only [List.length_drop, List.length_take]; rfl)) ?_; (with_reducible refine (impl_Sign.calls k _ _ t112 t115 t116 a2 a3 t117 t120 _ ?side1 ?side2 A19.out (HGK.out.below (by repeat (first | (with_reducible first | exact HB.out | apply below_alloc | apply pw_below_drewN | apply below_drew1 | refine below_set ?_ GE101.out) | exact HB.out)))).mono ?_); (case side1 => repeat (first | exact (KB.R_reads' HO114.out).2.2 | (with_reducible refine Kd.C_alloc ?_ _) | (with_reducible refine Kd.C_drewN ?_ _) | (with_reducible refine Kd.C_drew ?_))); (case side2 => exact (KB.R_reads' HO114.out).2.1); rintro e w33 ⟨v118, rfl, ho0, hb⟩; refine ⟨_, rfl, ?_⟩; have n0_ := Aside0.mk (KB.R_elder' (by (with_reducible repeat (first | apply KB.R_alloc | apply KB.R_drewN | apply KB.R_drew)); exact HO105.out) (KB.R_base ho0) hb); have n1_ := Aside0.mk (KB.R_elder' (by (with_reducible repeat (first | apply KB.R_alloc | apply KB.R_drewN | apply KB.R_drew)); exact HO110.out) (KB.R_base ho0) hb); have n2_ := Aside0.mk (KB.R_elder' (by (with_reducible repeat (first | apply KB.R_alloc | apply KB.R_drewN | apply KB.R_drew)); exact HO114.out) (KB.R_base ho0) hb); have n3_ := Aside0.mk (KB.R_lower (KB.R_new' (KB.R_new' (KB.R_new' ho0 (KB.R_lt (by (with_reducible repeat (first | apply KB.R_alloc | apply KB.R_drewN | apply KB.R_drew)); exact HO105.out))) (KB.R_lt (by (with_reducible repeat (first | apply KB.R_alloc | apply KB.R_drewN | apply KB.R_drew)); exact HO110.out))) (KB.R_lt (by (with_reducible repeat (first | apply KB.R_alloc | apply KB.R_drewN | apply KB.R_drew)); exact HO114.out))) (below_size (by repeat (first | (with_reducible first | exact HB.out | apply below_alloc | apply pw_below_drewN | apply below_drew1 | refine below_set ?_ GE101.out) | exact HB.out)))); have n4_ := Aside0.mk (blk_below (g := gb101) (o := .cells #[.string a1_0, .string a1_1] 31 (0, 0)) (by (with_reducible repeat (first | refine blk_drewN ?_ _ | refine blk_drew ?_ | refine blk_alloc ?_ _)); exact BK101.out) hb); have n5_ := Aside0.mk (below_step (by repeat (first | (with_reducible first | exact HB.out | apply below_alloc | apply pw_below_drewN | apply below_drew1 | refine below_set ?_ GE101.out) | exact HB.out)) hb); clear HO105; clear HO110; clear HO114; clear BK101; clear HB; have HO105 := n0_; have HO110 := n1_; have HO114 := n2_; have HO119 := n3_; have BK101 := n4_; have HB := n5_; clear n0_ n1_ n2_ n3_ n4_ n5_; (try clear hb); (try clear hb2); (try clear hk); (try clear hi); (try clear ho0)))
        (try simp only [Act.put, List.setIfInBounds_toArray, List.set_cons_zero, List.set_cons_succ])
        go_cut [60] (fun v60 wc => ∃ (kq : Nat) (x60_19 : Bool), v60 = .bool x60_19 ∧ Aside0 (laws_FnExactSign.j0 kq l0 a2 a3 t108 t111 t112 t117 t120 x60_19 a1_0 a1_1 = some r) ∧ Aside0 (kq ≤ k) ∧ Aside0 (KB.R (Kd.int .u8) 5 wc w.heap.size (fun k_ => some k_ ≠ ((.slice Ao32 t112.length co32) : Value).ownBlock ∧ some k_ ≠ (v118 : Value).ownBlock) v109 t108) ∧ Aside0 (KB.R (Kd.int .u8) 5 wc w.heap.size (fun k_ => some k_ ≠ (v109 : Value).ownBlock ∧ some k_ ≠ (v118 : Value).ownBlock) (.slice Ao32 t112.length co32) t112) ∧ Aside0 (KB.R (Kd.int .u8) 5 wc w.heap.size (fun k_ => some k_ ≠ (v109 : Value).ownBlock ∧ some k_ ≠ ((.slice Ao32 t112.length co32) : Value).ownBlock) v118 t117) ∧ Aside0 (wc.heap[gb101]? = some (.cells #[.string a1_0, .string a1_1] 31 (0, 0))) ∧ Aside0 (Below w.heap.size w wc))
        case first =>
          have H := HC20.out
          clear HC20
          replace H := Option.bind_eq_some_iff.mp H
          obtain ⟨t121, A340, H⟩ := H
          replace H : (if t121 = true then (laws_FnExactSign.j0 k l0 a2 a3 t108 t111 t112 t117 t120 (t120 != t111) a1_0 a1_1) else (laws_FnExactSign.j0 k l0 a2 a3 t108 t111 t112 t117 t120 true a1_0 a1_1)) = some r := H
          have A34 := Aside0.mk A340
          clear A340
          by_cases c35 : t121 = true
          · subst c35
            have H1 : (laws_FnExactSign.j0 k l0 a2 a3 t108 t111 t112 t117 t120 (t120 != t111) a1_0 a1_1) = some r := by rw [if_pos rfl] at H; exact H
            clear H
            have H := H1
            clear H1
            have H' := Aside0.mk H
            clear H
            obtain ⟨Ao36, co36, eo36⟩ := KB.R_slice HO119.out
            subst eo36
            obtain ⟨Ao37, co37, eo37⟩ := KB.R_slice HO110.out
            subst eo37
            go_wp2_with (first | ((with_reducible refine gate_callee (f := 10) rfl ?_); refine goesL_ (some 54) rfl rfl Tryd.func10 (by kernel_rfl) rfl #[.slice Ao36 t117.length co36, .slice Ao37 t108.length co37] rfl (by (try simp only [List.map_toArray, List.map_cons, List.map_nil]); first | done | rfl | (simp only [List.length_drop, List.length_take]; rfl)) ?_; (with_reducible refine (laws_eqByteS.calls k _ _ t117 _ _ t108 true _ ?side1 ?side2 ?side3 ?side4 A34.out).mono ?_); (case side1 => repeat (first | exact (KB.R_reads' HO119.out).2.2 | (with_reducible refine Kd.C_alloc ?_ _) | (with_reducible refine Kd.C_drewN ?_ _) | (with_reducible refine Kd.C_drew ?_))); (case side2 => exact (KB.R_reads' HO119.out).2.1); (case side3 => repeat (first | exact (KB.R_reads' HO110.out).2.2 | (with_reducible refine Kd.C_alloc ?_ _) | (with_reducible refine Kd.C_drewN ?_ _) | (with_reducible refine Kd.C_drew ?_))); (case side4 => exact (KB.R_reads' HO110.out).2.1); rintro e w' ⟨rfl, ⟨nd, rfl⟩⟩; refine ⟨_, rfl, ?_⟩))
            go_meet
            case rel => exact ⟨_, ((t120 != t111)), (by first | rfl | (simp; done) | (simp [*]; done)), H', ⟨by first | omega | exact Nat.le_refl _⟩, ⟨by (with_reducible repeat (first | apply KB.R_alloc | apply KB.R_drewN | apply KB.R_drew)); exact KB.R_mono HO110.out (fun _ hk => ⟨hk.1.2, hk.2⟩)⟩, ⟨by (with_reducible repeat (first | apply KB.R_alloc | apply KB.R_drewN | apply KB.R_drew)); exact KB.R_mono HO114.out (fun _ hk => ⟨hk.1.2, hk.2⟩)⟩, ⟨by (with_reducible repeat (first | apply KB.R_alloc | apply KB.R_drewN | apply KB.R_drew)); exact KB.R_mono HO119.out (fun _ hk => ⟨hk.1.2, hk.2⟩)⟩, ⟨by (with_reducible repeat (first | refine blk_drewN ?_ _ | refine blk_drew ?_ | refine blk_alloc ?_ _)); exact BK101.out⟩, ⟨by repeat (first | (with_reducible first | exact HB.out | apply below_alloc | apply pw_below_drewN | apply below_drew1 | refine below_set ?_ GE101.out) | exact HB.out)⟩⟩
          · replace c35 := Bool.eq_false_iff.mpr c35
            subst c35
            have H1 : (laws_FnExactSign.j0 k l0 a2 a3 t108 t111 t112 t117 t120 true a1_0 a1_1) = some r := by rw [if_neg (show ¬ (false = true) by decide)] at H; exact H
            clear H
            have H := H1
            clear H1
            have H' := Aside0.mk H
            clear H
            obtain ⟨Ao38, co38, eo38⟩ := KB.R_slice HO119.out
            subst eo38
            obtain ⟨Ao39, co39, eo39⟩ := KB.R_slice HO110.out
            subst eo39
            go_wp2_with (first | ((with_reducible refine gate_callee (f := 10) rfl ?_); refine goesL_ (some 54) rfl rfl Tryd.func10 (by kernel_rfl) rfl #[.slice Ao38 t117.length co38, .slice Ao39 t108.length co39] rfl (by (try simp only [List.map_toArray, List.map_cons, List.map_nil]); first | done | rfl | (simp only [List.length_drop, List.length_take]; rfl)) ?_; (with_reducible refine (laws_eqByteS.calls k _ _ t117 _ _ t108 false _ ?side1 ?side2 ?side3 ?side4 A34.out).mono ?_); (case side1 => repeat (first | exact (KB.R_reads' HO119.out).2.2 | (with_reducible refine Kd.C_alloc ?_ _) | (with_reducible refine Kd.C_drewN ?_ _) | (with_reducible refine Kd.C_drew ?_))); (case side2 => exact (KB.R_reads' HO119.out).2.1); (case side3 => repeat (first | exact (KB.R_reads' HO110.out).2.2 | (with_reducible refine Kd.C_alloc ?_ _) | (with_reducible refine Kd.C_drewN ?_ _) | (with_reducible refine Kd.C_drew ?_))); (case side4 => exact (KB.R_reads' HO110.out).2.1); rintro e w' ⟨rfl, ⟨nd, rfl⟩⟩; refine ⟨_, rfl, ?_⟩))
            go_meet
            case rel => exact ⟨_, (true), (by first | rfl | (simp; done) | (simp [*]; done)), H', ⟨by first | omega | exact Nat.le_refl _⟩, ⟨by (with_reducible repeat (first | apply KB.R_alloc | apply KB.R_drewN | apply KB.R_drew)); exact KB.R_mono HO110.out (fun _ hk => ⟨hk.1.2, hk.2⟩)⟩, ⟨by (with_reducible repeat (first | apply KB.R_alloc | apply KB.R_drewN | apply KB.R_drew)); exact KB.R_mono HO114.out (fun _ hk => ⟨hk.1.2, hk.2⟩)⟩, ⟨by (with_reducible repeat (first | apply KB.R_alloc | apply KB.R_drewN | apply KB.R_drew)); exact KB.R_mono HO119.out (fun _ hk => ⟨hk.1.2, hk.2⟩)⟩, ⟨by (with_reducible repeat (first | refine blk_drewN ?_ _ | refine blk_drew ?_ | refine blk_alloc ?_ _)); exact BK101.out⟩, ⟨by repeat (first | (with_reducible first | exact HB.out | apply below_alloc | apply pw_below_drewN | apply below_drew1 | refine below_set ?_ GE101.out) | exact HB.out)⟩⟩
        case rest =>
          clear HC20
          try clear c1
          try clear p2
          try clear c3
          try clear c5
          try clear c5b0
          try clear c5b1
          try clear c7
          try clear c7b0
          try clear c7b1
          try clear c10
          try clear c10b0
          try clear c13
          try clear c14
          try clear c15
          try clear c16
          try clear c35
          try clear hcz12_0
          try clear hcz12_1
          try clear hcz22_0
          try clear hcz22_1
          try clear hcz30_0
          try clear hcz30_1
          try clear hfz12_0
          try clear hfz12_1
          try clear hfz22_0
          try clear hfz22_1
          try clear hfz30_0
          try clear hfz30_1
          obtain ⟨kq, x60_19, rfl, HA, HJ19, HO_10, HO_12, HO_13, BK101, HB⟩ := hcut
          cases kq with
          | zero => exact absurd HA.out (by simp [laws_FnExactSign.j0])
          | succ kj19 =>
            have H := HA.out
            clear HA
            simp only [laws_FnExactSign.j0] at H
            by_cases c40 : x60_19 = true
            · subst c40
              have H1 : (some false) = some r := by rw [if_pos rfl] at H; exact H
              clear H
              have H := H1
              clear H1
              obtain rfl := Option.some.inj H
              go_wp2
              go_ret
              exact ⟨by first | rfl | (simp [errW_none, errW_some] <;> rfl) | (simp [*, errW_none, errW_some] <;> rfl), by repeat (first | (with_reducible first | exact HB.out | apply below_alloc | apply pw_below_drewN | apply below_drew1 | refine below_set ?_ GE101.out) | exact HB.out)⟩
            · replace c40 := Bool.eq_false_iff.mpr c40
              subst c40
              have H1 : ((laws_toByteS.f kj19 l0).bind fun t122 => ((laws_eqByteS.f kj19 t112 t122).bind fun t125 => (if t125 = true then ((laws_markByteS.f kj19 t112 1).bind fun bt126 => (if bt126.1 < 0 then (laws_FnExactSign.j1 kj19 l0 a2 a3 t108 t111 t117 true a1_0 a1_1) else ((laws_eqByteS.f kj19 t117 t108).bind fun t128 => (if t128 = true then (laws_FnExactSign.j1 kj19 l0 a2 a3 t108 t111 t117 (t120 != t111) a1_0 a1_1) else (laws_FnExactSign.j1 kj19 l0 a2 a3 t108 t111 t117 true a1_0 a1_1))))) else (some false)))) = some r := by rw [if_neg (show ¬ (false = true) by decide)] at H; exact H
              clear H
              have H := H1
              clear H1
              replace H := Option.bind_eq_some_iff.mp H
              obtain ⟨t122, A410, H⟩ := H
              replace H : ((laws_eqByteS.f kj19 t112 t122).bind fun t125 => (if t125 = true then ((laws_markByteS.f kj19 t112 1).bind fun bt126 => (if bt126.1 < 0 then (laws_FnExactSign.j1 kj19 l0 a2 a3 t108 t111 t117 true a1_0 a1_1) else ((laws_eqByteS.f kj19 t117 t108).bind fun t128 => (if t128 = true then (laws_FnExactSign.j1 kj19 l0 a2 a3 t108 t111 t117 (t120 != t111) a1_0 a1_1) else (laws_FnExactSign.j1 kj19 l0 a2 a3 t108 t111 t117 true a1_0 a1_1))))) else (some false))) = some r := H
              have A41 := Aside0.mk A410
              clear A410
              replace H := Option.bind_eq_some_iff.mp H
              obtain ⟨t125, A420, H⟩ := H
              replace H : (if t125 = true then ((laws_markByteS.f kj19 t112 1).bind fun bt126 => (if bt126.1 < 0 then (laws_FnExactSign.j1 kj19 l0 a2 a3 t108 t111 t117 true a1_0 a1_1) else ((laws_eqByteS.f kj19 t117 t108).bind fun t128 => (if t128 = true then (laws_FnExactSign.j1 kj19 l0 a2 a3 t108 t111 t117 (t120 != t111) a1_0 a1_1) else (laws_FnExactSign.j1 kj19 l0 a2 a3 t108 t111 t117 true a1_0 a1_1))))) else (some false)) = some r := H
              have A42 := Aside0.mk A420
              clear A420
              by_cases c43 : t125 = true
              · subst c43
                have H1 : ((laws_markByteS.f kj19 t112 1).bind fun bt126 => (if bt126.1 < 0 then (laws_FnExactSign.j1 kj19 l0 a2 a3 t108 t111 t117 true a1_0 a1_1) else ((laws_eqByteS.f kj19 t117 t108).bind fun t128 => (if t128 = true then (laws_FnExactSign.j1 kj19 l0 a2 a3 t108 t111 t117 (t120 != t111) a1_0 a1_1) else (laws_FnExactSign.j1 kj19 l0 a2 a3 t108 t111 t117 true a1_0 a1_1))))) = some r := by rw [if_pos rfl] at H; exact H
                clear H
                have H := H1
                clear H1
                replace H := Option.bind_eq_some_iff.mp H
                obtain ⟨⟨t126, t127⟩, A440, H⟩ := H
                replace H : (if t126 < 0 then (laws_FnExactSign.j1 kj19 l0 a2 a3 t108 t111 t117 true a1_0 a1_1) else ((laws_eqByteS.f kj19 t117 t108).bind fun t128 => (if t128 = true then (laws_FnExactSign.j1 kj19 l0 a2 a3 t108 t111 t117 (t120 != t111) a1_0 a1_1) else (laws_FnExactSign.j1 kj19 l0 a2 a3 t108 t111 t117 true a1_0 a1_1)))) = some r := H
                have A44 := Aside0.mk A440
                clear A440
                have HC45 := Aside0.mk H
                clear H
                go_upto_region 18 with (first | ((with_reducible refine gate_callee (f := 7) rfl ?_); refine goesL_ (some 63) rfl rfl Tryd.func7 (by kernel_rfl) rfl #[.slice A0 l0.length c0] rfl (by (try simp only [List.map_toArray, List.map_cons, List.map_nil]); first | done | rfl | (simp only [List.length_drop, List.length_take]; rfl)) ?_; (with_reducible refine (laws_toByteS.calls kj19 _ _ l0 t122 _ ?side1 ?side2 A41.out).mono ?_); (case side1 => repeat (first | exact (Kd.C_below HR0.out HB.out) | (with_reducible refine Kd.C_alloc ?_ _) | (with_reducible refine Kd.C_drewN ?_ _) | (with_reducible refine Kd.C_drew ?_))); (case side2 => exact HC0.out); rintro e w46 ⟨v123, rfl, ho0_, hb⟩; have ho0 := KB.of_R (d := Kd.int .u8) ho0_ (Kd.R_reads_max ho0_); clear ho0_; refine ⟨_, rfl, ?_⟩; have n0_ := Aside0.mk (KB.R_elder' (by (with_reducible repeat (first | apply KB.R_alloc | apply KB.R_drewN | apply KB.R_drew)); exact HO_10.out) (KB.R_base ho0) hb); have n1_ := Aside0.mk (KB.R_elder' (by (with_reducible repeat (first | apply KB.R_alloc | apply KB.R_drewN | apply KB.R_drew)); exact HO_12.out) (KB.R_base ho0) hb); have n2_ := Aside0.mk (KB.R_elder' (by (with_reducible repeat (first | apply KB.R_alloc | apply KB.R_drewN | apply KB.R_drew)); exact HO_13.out) (KB.R_base ho0) hb); have n3_ := Aside0.mk (KB.R_lower (KB.R_new' (KB.R_new' (KB.R_new' ho0 (KB.R_lt (by (with_reducible repeat (first | apply KB.R_alloc | apply KB.R_drewN | apply KB.R_drew)); exact HO_10.out))) (KB.R_lt (by (with_reducible repeat (first | apply KB.R_alloc | apply KB.R_drewN | apply KB.R_drew)); exact HO_12.out))) (KB.R_lt (by (with_reducible repeat (first | apply KB.R_alloc | apply KB.R_drewN | apply KB.R_drew)); exact HO_13.out))) (below_size (by repeat (first | (with_reducible first | exact HB.out | apply below_alloc | apply pw_below_drewN | apply below_drew1 | refine below_set ?_ GE101.out) | exact HB.out)))); have n4_ := Aside0.mk (blk_below (g := gb101) (o := .cells #[.string a1_0, .string a1_1] 31 (0, 0)) (by (with_reducible repeat (first | refine blk_drewN ?_ _ | refine blk_drew ?_ | refine blk_alloc ?_ _)); exact BK101.out) hb); have n5_ := Aside0.mk (below_step (by repeat (first | (with_reducible first | exact HB.out | apply below_alloc | apply pw_below_drewN | apply below_drew1 | refine below_set ?_ GE101.out) | exact HB.out)) hb); clear HO_10; clear HO_12; clear HO_13; clear BK101; clear HB; have HO_10 := n0_; have HO_12 := n1_; have HO_13 := n2_; have HO124 := n3_; have BK101 := n4_; have HB := n5_; clear n0_ n1_ n2_ n3_ n4_ n5_; (try clear hb); (try clear hb2); (try clear hk); (try clear hi); (try clear ho0); obtain ⟨Ao47, co47, eo47⟩ := KB.R_slice HO124.out; subst eo47) | ((with_reducible refine gate_callee (f := 10) rfl ?_); refine goesL_ (some 64) rfl rfl Tryd.func10 (by kernel_rfl) rfl #[.slice Ao32 t112.length co32, .slice Ao47 t122.length co47] rfl (by (try simp only [List.map_toArray, List.map_cons, List.map_nil]); first | done | rfl | (simp only [List.length_drop, List.length_take]; rfl)) ?_; (with_reducible refine (laws_eqByteS.calls kj19 _ _ t112 _ _ t122 true _ ?side1 ?side2 ?side3 ?side4 A42.out).mono ?_); (case side1 => repeat (first | exact (KB.R_reads' HO_12.out).2.2 | (with_reducible refine Kd.C_alloc ?_ _) | (with_reducible refine Kd.C_drewN ?_ _) | (with_reducible refine Kd.C_drew ?_))); (case side2 => exact (KB.R_reads' HO_12.out).2.1); (case side3 => repeat (first | exact (KB.R_reads' HO124.out).2.2 | (with_reducible refine Kd.C_alloc ?_ _) | (with_reducible refine Kd.C_drewN ?_ _) | (with_reducible refine Kd.C_drew ?_))); (case side4 => exact (KB.R_reads' HO124.out).2.1); rintro e w' ⟨rfl, ⟨nd, rfl⟩⟩; refine ⟨_, rfl, ?_⟩) | ((with_reducible refine gate_callee (f := 17) rfl ?_); refine goesL_ (some 68) rfl rfl Tryd.func17 (by kernel_rfl) rfl #[.slice Ao32 t112.length co32, .int .i64 1] rfl (by (try simp only [List.map_toArray, List.map_cons, List.map_nil]); first | done | rfl | (simp only [List.length_drop, List.length_take]; rfl)) ?_; (with_reducible refine (laws_markByteS.calls kj19 (fun k_ => some k_ = (.slice Ao32 t112.length co32 : Value).ownBlock) (.slice Ao32 t112.length co32) t112 1 t126 t127 w _ ?side1 ?side2 A44.out).mono ?_); (case side1 => repeat (first | (with_reducible first | exact HB.out | apply below_alloc | apply pw_below_drewN | apply below_drew1 | refine below_set ?_ GE101.out) | exact HB.out)); (case side2 => exact KB.R_tight rfl HO_12.out); rintro e w48 ⟨rfl, hy0, hb, hkp⟩; refine ⟨_, rfl, ?_⟩; have n0_ := Aside0.mk (KB.R_mono (ok' := fun k_ => some k_ ≠ (.slice Ao32 t112.length co32 : Value).ownBlock ∧ some k_ ≠ (v118 : Value).ownBlock ∧ some k_ ≠ (.slice Ao47 t122.length co47 : Value).ownBlock) (KB.R_keptB (HO_10.out) hkp (fun k_ hk_ hs_ => (hk_.1.1) hs_)) (fun k_ hk_ => ⟨hk_.1.1.1, hk_.1.1.2, hk_.1.2⟩)); have n1_ := Aside0.mk (KB.R_reok rfl hy0 (fun k_ e_ => HO_12.out.1 k_ e_)); have n2_ := Aside0.mk (KB.R_mono (ok' := fun k_ => some k_ ≠ (v109 : Value).ownBlock ∧ some k_ ≠ (.slice Ao32 t112.length co32 : Value).ownBlock ∧ some k_ ≠ (.slice Ao47 t122.length co47 : Value).ownBlock) (KB.R_keptB (HO_13.out) hkp (fun k_ hk_ hs_ => (hk_.1.2) hs_)) (fun k_ hk_ => ⟨hk_.1.1.1, hk_.1.1.2, hk_.1.2⟩)); have n3_ := Aside0.mk (blk_kept (by (with_reducible repeat (first | refine blk_drewN ?_ _ | refine blk_drew ?_ | refine blk_alloc ?_ _)); exact BK101.out) hkp (fun hs_ => (fun e_ => (KB.R_ne HO_12.out BK101.out (by decide)) e_) hs_)); have n4_ := Aside0.mk (KB.R_mono (ok' := fun k_ => some k_ ≠ (v109 : Value).ownBlock ∧ some k_ ≠ (.slice Ao32 t112.length co32 : Value).ownBlock ∧ some k_ ≠ (v118 : Value).ownBlock) (KB.R_keptB (HO124.out) hkp (fun k_ hk_ hs_ => (hk_.1.2) hs_)) (fun k_ hk_ => ⟨hk_.1.1.1.2, hk_.1.1.2, hk_.1.2⟩)); have n5_ := Aside0.mk (hb); clear HO_10; clear HO_12; clear HO_13; clear BK101; clear HO124; clear HB; have HO_10 := n0_; have HO_12 := n1_; have HO_13 := n2_; have BK101 := n3_; have HO124 := n4_; have HB := n5_; clear n0_ n1_ n2_ n3_ n4_ n5_; (try clear hb); (try clear hkp); (try clear hy0)))
                (try simp only [Act.put, List.setIfInBounds_toArray, List.set_cons_zero, List.set_cons_succ])
                go_cut [81] (fun v81 wc => ∃ (kq : Nat) (x81_44 : Bool), v81 = .bool x81_44 ∧ Aside0 (laws_FnExactSign.j1 kq l0 a2 a3 t108 t111 t117 x81_44 a1_0 a1_1 = some r) ∧ Aside0 (kq ≤ kj19) ∧ Aside0 (KB.R (Kd.int .u8) 5 wc w.heap.size (fun k_ => some k_ ≠ (v118 : Value).ownBlock) v109 t108) ∧ Aside0 (KB.R (Kd.int .u8) 5 wc w.heap.size (fun k_ => some k_ ≠ (v109 : Value).ownBlock) v118 t117) ∧ Aside0 (wc.heap[gb101]? = some (.cells #[.string a1_0, .string a1_1] 31 (0, 0))) ∧ Aside0 (Below w.heap.size w wc))
                case first =>
                  have H := HC45.out
                  clear HC45
                  by_cases c49 : t126 < 0
                  · rw [if_pos c49] at H
                    have c49b0 : decide (t126 < 0) = true := decide_eq_true c49
                    clear c49
                    (first | rw [c49b0] | (simp only [i64_w, i32_w]; rw [c49b0]) | skip)
                    have H' := Aside0.mk H
                    clear H
                    go_wp2
                    go_meet
                    case rel => exact ⟨_, (true), (by first | rfl | (simp; done) | (simp [*]; done)), H', ⟨by have := HJ19.out; first | omega | exact Nat.le_refl _⟩, ⟨by (with_reducible repeat (first | apply KB.R_alloc | apply KB.R_drewN | apply KB.R_drew)); exact KB.R_mono HO_10.out (fun _ hk => hk.2.1)⟩, ⟨by (with_reducible repeat (first | apply KB.R_alloc | apply KB.R_drewN | apply KB.R_drew)); exact KB.R_mono HO_13.out (fun _ hk => hk.1)⟩, ⟨by (with_reducible repeat (first | refine blk_drewN ?_ _ | refine blk_drew ?_ | refine blk_alloc ?_ _)); exact BK101.out⟩, ⟨by repeat (first | (with_reducible first | exact HB.out | apply below_alloc | apply pw_below_drewN | apply below_drew1 | refine below_set ?_ GE101.out) | exact HB.out)⟩⟩
                  · rw [if_neg c49] at H
                    have c49b0 : decide (t126 < 0) = false := decide_eq_false c49
                    clear c49
                    (first | rw [c49b0] | (simp only [i64_w, i32_w]; rw [c49b0]) | skip)
                    replace H := Option.bind_eq_some_iff.mp H
                    obtain ⟨t128, A500, H⟩ := H
                    replace H : (if t128 = true then (laws_FnExactSign.j1 kj19 l0 a2 a3 t108 t111 t117 (t120 != t111) a1_0 a1_1) else (laws_FnExactSign.j1 kj19 l0 a2 a3 t108 t111 t117 true a1_0 a1_1)) = some r := H
                    have A50 := Aside0.mk A500
                    clear A500
                    by_cases c51 : t128 = true
                    · subst c51
                      have H1 : (laws_FnExactSign.j1 kj19 l0 a2 a3 t108 t111 t117 (t120 != t111) a1_0 a1_1) = some r := by rw [if_pos rfl] at H; exact H
                      clear H
                      have H := H1
                      clear H1
                      have H' := Aside0.mk H
                      clear H
                      obtain ⟨Ao52, co52, eo52⟩ := KB.R_slice HO_13.out
                      subst eo52
                      obtain ⟨Ao53, co53, eo53⟩ := KB.R_slice HO_10.out
                      subst eo53
                      go_wp2_with (first | (go_at_call 10; (with_reducible refine (laws_eqByteS.calls kj19 _ _ t117 _ _ t108 true _ ?side1 ?side2 ?side3 ?side4 A50.out).mono ?_); (case side1 => repeat (first | exact (KB.R_reads' HO_13.out).2.2 | (with_reducible refine Kd.C_alloc ?_ _) | (with_reducible refine Kd.C_drewN ?_ _) | (with_reducible refine Kd.C_drew ?_))); (case side2 => exact (KB.R_reads' HO_13.out).2.1); (case side3 => repeat (first | exact (KB.R_reads' HO_10.out).2.2 | (with_reducible refine Kd.C_alloc ?_ _) | (with_reducible refine Kd.C_drewN ?_ _) | (with_reducible refine Kd.C_drew ?_))); (case side4 => exact (KB.R_reads' HO_10.out).2.1); rintro e w' ⟨rfl, ⟨nd, rfl⟩⟩))
                      go_meet
                      case rel => exact ⟨_, ((t120 != t111)), (by first | rfl | (simp; done) | (simp [*]; done)), H', ⟨by have := HJ19.out; first | omega | exact Nat.le_refl _⟩, ⟨by (with_reducible repeat (first | apply KB.R_alloc | apply KB.R_drewN | apply KB.R_drew)); exact KB.R_mono HO_10.out (fun _ hk => hk.2.1)⟩, ⟨by (with_reducible repeat (first | apply KB.R_alloc | apply KB.R_drewN | apply KB.R_drew)); exact KB.R_mono HO_13.out (fun _ hk => hk.1)⟩, ⟨by (with_reducible repeat (first | refine blk_drewN ?_ _ | refine blk_drew ?_ | refine blk_alloc ?_ _)); exact BK101.out⟩, ⟨by repeat (first | (with_reducible first | exact HB.out | apply below_alloc | apply pw_below_drewN | apply below_drew1 | refine below_set ?_ GE101.out) | exact HB.out)⟩⟩
                    · replace c51 := Bool.eq_false_iff.mpr c51
                      subst c51
                      have H1 : (laws_FnExactSign.j1 kj19 l0 a2 a3 t108 t111 t117 true a1_0 a1_1) = some r := by rw [if_neg (show ¬ (false = true) by decide)] at H; exact H
                      clear H
                      have H := H1
                      clear H1
                      have H' := Aside0.mk H
                      clear H
                      obtain ⟨Ao54, co54, eo54⟩ := KB.R_slice HO_13.out
                      subst eo54
                      obtain ⟨Ao55, co55, eo55⟩ := KB.R_slice HO_10.out
                      subst eo55
                      go_wp2_with (first | (go_at_call 10; (with_reducible refine (laws_eqByteS.calls kj19 _ _ t117 _ _ t108 false _ ?side1 ?side2 ?side3 ?side4 A50.out).mono ?_); (case side1 => repeat (first | exact (KB.R_reads' HO_13.out).2.2 | (with_reducible refine Kd.C_alloc ?_ _) | (with_reducible refine Kd.C_drewN ?_ _) | (with_reducible refine Kd.C_drew ?_))); (case side2 => exact (KB.R_reads' HO_13.out).2.1); (case side3 => repeat (first | exact (KB.R_reads' HO_10.out).2.2 | (with_reducible refine Kd.C_alloc ?_ _) | (with_reducible refine Kd.C_drewN ?_ _) | (with_reducible refine Kd.C_drew ?_))); (case side4 => exact (KB.R_reads' HO_10.out).2.1); rintro e w' ⟨rfl, ⟨nd, rfl⟩⟩))
                      go_meet
                      case rel => exact ⟨_, (true), (by first | rfl | (simp; done) | (simp [*]; done)), H', ⟨by have := HJ19.out; first | omega | exact Nat.le_refl _⟩, ⟨by (with_reducible repeat (first | apply KB.R_alloc | apply KB.R_drewN | apply KB.R_drew)); exact KB.R_mono HO_10.out (fun _ hk => hk.2.1)⟩, ⟨by (with_reducible repeat (first | apply KB.R_alloc | apply KB.R_drewN | apply KB.R_drew)); exact KB.R_mono HO_13.out (fun _ hk => hk.1)⟩, ⟨by (with_reducible repeat (first | refine blk_drewN ?_ _ | refine blk_drew ?_ | refine blk_alloc ?_ _)); exact BK101.out⟩, ⟨by repeat (first | (with_reducible first | exact HB.out | apply below_alloc | apply pw_below_drewN | apply below_drew1 | refine below_set ?_ GE101.out) | exact HB.out)⟩⟩
                case rest =>
                  clear HC45
                  try clear c1
                  try clear p2
                  try clear c3
                  try clear c4
                  try clear c5
                  try clear c5b0
                  try clear c5b1
                  try clear c7
                  try clear c7b0
                  try clear c7b1
                  try clear c10
                  try clear c10b0
                  try clear c13
                  try clear c14
                  try clear c15
                  try clear c16
                  try clear c17
                  try clear c35
                  try clear c40
                  try clear c43
                  try clear c49
                  try clear c49b0
                  try clear c51
                  try clear hcz12_0
                  try clear hcz12_1
                  try clear hcz22_0
                  try clear hcz22_1
                  try clear hcz30_0
                  try clear hcz30_1
                  try clear hfz12_0
                  try clear hfz12_1
                  try clear hfz22_0
                  try clear hfz22_1
                  try clear hfz30_0
                  try clear hfz30_1
                  try clear p2
                  obtain ⟨kq, x81_44, rfl, HA, HJ44, HO_10, HO_13, BK101, HB⟩ := hcut
                  cases kq with
                  | zero => exact absurd HA.out (by simp [laws_FnExactSign.j1])
                  | succ kj44 =>
                    have H := HA.out
                    clear HA
                    simp only [laws_FnExactSign.j1] at H
                    by_cases c56 : x81_44 = true
                    · subst c56
                      have H1 : (some false) = some r := by rw [if_pos rfl] at H; exact H
                      clear H
                      have H := H1
                      clear H1
                      obtain rfl := Option.some.inj H
                      go_wp2
                      go_ret
                      exact ⟨by first | rfl | (simp [errW_none, errW_some] <;> rfl) | (simp [*, errW_none, errW_some] <;> rfl), by repeat (first | (with_reducible first | exact HB.out | apply below_alloc | apply pw_below_drewN | apply below_drew1 | refine below_set ?_ GE101.out) | exact HB.out)⟩
                    · replace c56 := Bool.eq_false_iff.mpr c56
                      subst c56
                      have H1 : ((laws_markByteS.f kj44 t117 1).bind fun bt129 => ((laws_heldByteS.f kj44 bt129.2 1).bind fun t131 => (if t131 < 0 then (some false) else (if t131 = bt129.1 then ((laws_toByteS.f kj44 l0).bind fun t132 => ((laws_toKey.f a1_0 a1_1).bind fun bt135 => ((impl_Sign.f kj44 t132 bt135.1 bt135.2 a2 a3).bind fun bt137 => ((laws_eqByteS.f kj44 bt137.1 t108).bind fun t141 => (if t141 = true then (laws_FnExactSign.j2 kj44 bt129.2 bt129.1 (bt137.2 != t111)) else (laws_FnExactSign.j2 kj44 bt129.2 bt129.1 true)))))) else (some false))))) = some r := by rw [if_neg (show ¬ (false = true) by decide)] at H; exact H
                      clear H
                      have H := H1
                      clear H1
                      replace H := Option.bind_eq_some_iff.mp H
                      obtain ⟨⟨t129, t130⟩, A570, H⟩ := H
                      replace H : ((laws_heldByteS.f kj44 t130 1).bind fun t131 => (if t131 < 0 then (some false) else (if t131 = t129 then ((laws_toByteS.f kj44 l0).bind fun t132 => ((laws_toKey.f a1_0 a1_1).bind fun bt135 => ((impl_Sign.f kj44 t132 bt135.1 bt135.2 a2 a3).bind fun bt137 => ((laws_eqByteS.f kj44 bt137.1 t108).bind fun t141 => (if t141 = true then (laws_FnExactSign.j2 kj44 t130 t129 (bt137.2 != t111)) else (laws_FnExactSign.j2 kj44 t130 t129 true)))))) else (some false)))) = some r := H
                      have A57 := Aside0.mk A570
                      clear A570
                      replace H := Option.bind_eq_some_iff.mp H
                      obtain ⟨t131, A580, H⟩ := H
                      replace H : (if t131 < 0 then (some false) else (if t131 = t129 then ((laws_toByteS.f kj44 l0).bind fun t132 => ((laws_toKey.f a1_0 a1_1).bind fun bt135 => ((impl_Sign.f kj44 t132 bt135.1 bt135.2 a2 a3).bind fun bt137 => ((laws_eqByteS.f kj44 bt137.1 t108).bind fun t141 => (if t141 = true then (laws_FnExactSign.j2 kj44 t130 t129 (bt137.2 != t111)) else (laws_FnExactSign.j2 kj44 t130 t129 true)))))) else (some false))) = some r := H
                      have A58 := Aside0.mk A580
                      clear A580
                      by_cases c59 : t131 < 0
                      · rw [if_pos c59] at H
                        have c59b0 : decide (t131 < 0) = true := decide_eq_true c59
                        clear c59
                        obtain rfl := Option.some.inj H
                        obtain ⟨Ao60, co60, eo60⟩ := KB.R_slice HO_13.out
                        subst eo60
                        go_wp2_with (first | ((with_reducible refine gate_callee (f := 17) rfl ?_); refine goesL_ (some 84) rfl rfl Tryd.func17 (by kernel_rfl) rfl #[.slice Ao60 t117.length co60, .int .i64 1] rfl (by (try simp only [List.map_toArray, List.map_cons, List.map_nil]); first | done | rfl | (simp only [List.length_drop, List.length_take]; rfl)) ?_; (with_reducible refine (laws_markByteS.calls kj44 (fun k_ => some k_ = (.slice Ao60 t117.length co60 : Value).ownBlock) (.slice Ao60 t117.length co60) t117 1 t129 t130 w _ ?side1 ?side2 A57.out).mono ?_); (case side1 => repeat (first | (with_reducible first | exact HB.out | apply below_alloc | apply pw_below_drewN | apply below_drew1 | refine below_set ?_ GE101.out) | exact HB.out)); (case side2 => exact KB.R_tight rfl HO_13.out); rintro e w61 ⟨rfl, hy0, hb, hkp⟩; refine ⟨_, rfl, ?_⟩; have n0_ := Aside0.mk (KB.R_mono (ok' := fun k_ => some k_ ≠ (.slice Ao60 t117.length co60 : Value).ownBlock) (KB.R_keptB (HO_10.out) hkp (fun k_ hk_ hs_ => (hk_) hs_)) (fun k_ hk_ => hk_.1)); have n1_ := Aside0.mk (KB.R_reok rfl hy0 (fun k_ e_ => HO_13.out.1 k_ e_)); have n2_ := Aside0.mk (blk_kept (by (with_reducible repeat (first | refine blk_drewN ?_ _ | refine blk_drew ?_ | refine blk_alloc ?_ _)); exact BK101.out) hkp (fun hs_ => (fun e_ => (KB.R_ne HO_13.out BK101.out (by decide)) e_) hs_)); have n3_ := Aside0.mk (hb); clear HO_10; clear HO_13; clear BK101; clear HB; have HO_10 := n0_; have HO_13 := n1_; have BK101 := n2_; have HB := n3_; clear n0_ n1_ n2_ n3_; (try clear hb); (try clear hkp); (try clear hy0)) | ((with_reducible refine gate_callee (f := 18) rfl ?_); refine goesL_ (some 87) rfl rfl Tryd.func18 (by kernel_rfl) rfl #[.slice Ao60 t130.length co60, .int .i64 1] rfl (by (try simp only [List.map_toArray, List.map_cons, List.map_nil]); first | done | (rw [show t130.length = t117.length from (KB.R_reads' HO_13.out).1.symm] <;> rfl) | rfl | (simp only [List.length_drop, List.length_take]; rfl)) ?_; (with_reducible refine (laws_heldByteS.calls kj44 _ _ t130 1 t131 _ ?side1 ?side2 A58.out).mono ?_); (case side1 => repeat (first | exact (KB.R_reads' HO_13.out).2.2 | (with_reducible refine Kd.C_alloc ?_ _) | (with_reducible refine Kd.C_drewN ?_ _) | (with_reducible refine Kd.C_drew ?_))); (case side2 => rw [show t130.length = t117.length from (KB.R_reads' HO_13.out).1.symm]; exact (KB.R_reads' HO_13.out).2.1); rintro e w' ⟨rfl, ⟨nd, rfl⟩⟩; refine ⟨_, rfl, ?_⟩))
                        go_ret
                        exact ⟨by first | rfl | (simp [errW_none, errW_some] <;> rfl) | (simp [*, errW_none, errW_some] <;> rfl), by repeat (first | (with_reducible first | exact HB.out | apply below_alloc | apply pw_below_drewN | apply below_drew1 | refine below_set ?_ GE101.out) | exact HB.out)⟩
                      · rw [if_neg c59] at H
                        have c59b0 : decide (t131 < 0) = false := decide_eq_false c59
                        clear c59
                        by_cases c62 : t131 = t129
                        · rw [if_pos c62] at H
                          have c62b0 : (t131 == t129) = true := beq_iff_eq.mpr c62
                          have c62b1 : (t131 != t129) = false := bne_eq_false_iff_eq.mpr c62
                          clear c62
                          replace H := Option.bind_eq_some_iff.mp H
                          obtain ⟨t132, A630, H⟩ := H
                          replace H : ((laws_toKey.f a1_0 a1_1).bind fun bt135 => ((impl_Sign.f kj44 t132 bt135.1 bt135.2 a2 a3).bind fun bt137 => ((laws_eqByteS.f kj44 bt137.1 t108).bind fun t141 => (if t141 = true then (laws_FnExactSign.j2 kj44 t130 t129 (bt137.2 != t111)) else (laws_FnExactSign.j2 kj44 t130 t129 true))))) = some r := H
                          have A63 := Aside0.mk A630
                          clear A630
                          replace H := Option.bind_eq_some_iff.mp H
                          obtain ⟨⟨t135, t136⟩, A640, H⟩ := H
                          replace H : ((impl_Sign.f kj44 t132 t135 t136 a2 a3).bind fun bt137 => ((laws_eqByteS.f kj44 bt137.1 t108).bind fun t141 => (if t141 = true then (laws_FnExactSign.j2 kj44 t130 t129 (bt137.2 != t111)) else (laws_FnExactSign.j2 kj44 t130 t129 true)))) = some r := H
                          have A64 := Aside0.mk A640
                          clear A640
                          replace H := Option.bind_eq_some_iff.mp H
                          obtain ⟨⟨t137, t140⟩, A650, H⟩ := H
                          replace H : ((laws_eqByteS.f kj44 t137 t108).bind fun t141 => (if t141 = true then (laws_FnExactSign.j2 kj44 t130 t129 (t140 != t111)) else (laws_FnExactSign.j2 kj44 t130 t129 true))) = some r := H
                          have A65 := Aside0.mk A650
                          clear A650
                          have HC66 := Aside0.mk H
                          clear H
                          obtain ⟨Ao67, co67, eo67⟩ := KB.R_slice HO_13.out
                          subst eo67
                          try go_wp2_with (first | ((with_reducible refine gate_callee (f := 17) rfl ?_); refine goesL_ (some 84) rfl rfl Tryd.func17 (by kernel_rfl) rfl #[.slice Ao67 t117.length co67, .int .i64 1] rfl (by (try simp only [List.map_toArray, List.map_cons, List.map_nil]); first | done | rfl | (simp only [List.length_drop, List.length_take]; rfl)) ?_; (with_reducible refine (laws_markByteS.calls kj44 (fun k_ => some k_ = (.slice Ao67 t117.length co67 : Value).ownBlock) (.slice Ao67 t117.length co67) t117 1 t129 t130 w _ ?side1 ?side2 A57.out).mono ?_); (case side1 => repeat (first | (with_reducible first | exact HB.out | apply below_alloc | apply pw_below_drewN | apply below_drew1 | refine below_set ?_ GE101.out) | exact HB.out)); (case side2 => exact KB.R_tight rfl HO_13.out); rintro e w68 ⟨rfl, hy0, hb, hkp⟩; refine ⟨_, rfl, ?_⟩; have n0_ := Aside0.mk (KB.R_mono (ok' := fun k_ => some k_ ≠ (.slice Ao67 t117.length co67 : Value).ownBlock) (KB.R_keptB (HO_10.out) hkp (fun k_ hk_ hs_ => (hk_) hs_)) (fun k_ hk_ => hk_.1)); have n1_ := Aside0.mk (KB.R_reok rfl hy0 (fun k_ e_ => HO_13.out.1 k_ e_)); have n2_ := Aside0.mk (blk_kept (by (with_reducible repeat (first | refine blk_drewN ?_ _ | refine blk_drew ?_ | refine blk_alloc ?_ _)); exact BK101.out) hkp (fun hs_ => (fun e_ => (KB.R_ne HO_13.out BK101.out (by decide)) e_) hs_)); have n3_ := Aside0.mk (hb); clear HO_10; clear HO_13; clear BK101; clear HB; have HO_10 := n0_; have HO_13 := n1_; have BK101 := n2_; have HB := n3_; clear n0_ n1_ n2_ n3_; (try clear hb); (try clear hkp); (try clear hy0)) | ((with_reducible refine gate_callee (f := 18) rfl ?_); refine goesL_ (some 87) rfl rfl Tryd.func18 (by kernel_rfl) rfl #[.slice Ao67 t130.length co67, .int .i64 1] rfl (by (try simp only [List.map_toArray, List.map_cons, List.map_nil]); first | done | (rw [show t130.length = t117.length from (KB.R_reads' HO_13.out).1.symm] <;> rfl) | rfl | (simp only [List.length_drop, List.length_take]; rfl)) ?_; (with_reducible refine (laws_heldByteS.calls kj44 _ _ t130 1 t131 _ ?side1 ?side2 A58.out).mono ?_); (case side1 => repeat (first | exact (KB.R_reads' HO_13.out).2.2 | (with_reducible refine Kd.C_alloc ?_ _) | (with_reducible refine Kd.C_drewN ?_ _) | (with_reducible refine Kd.C_drew ?_))); (case side2 => rw [show t130.length = t117.length from (KB.R_reads' HO_13.out).1.symm]; exact (KB.R_reads' HO_13.out).2.1); rintro e w' ⟨rfl, ⟨nd, rfl⟩⟩; refine ⟨_, rfl, ?_⟩))
                          (try (rw [drewN_self w68]; generalize hq_ : World.drewN w68 _ = w68; have n0_ : Aside0 (KB.R (Kd.int .u8) 5 w68 w.heap.size (fun k_ => some k_ ≠ (.slice Ao67 t117.length co67 : Value).ownBlock) v109 t108) := ⟨by rw [← hq_]; exact (by (with_reducible repeat (first | apply KB.R_alloc | apply KB.R_drewN | apply KB.R_drew)); exact HO_10.out)⟩; have n1_ : Aside0 (KB.R (Kd.int .u8) 5 w68 w.heap.size (fun k_ => some k_ ≠ (v109 : Value).ownBlock) (.slice Ao67 t117.length co67) t130) := ⟨by rw [← hq_]; exact (by (with_reducible repeat (first | apply KB.R_alloc | apply KB.R_drewN | apply KB.R_drew)); exact HO_13.out)⟩; have n2_ : Aside0 (w68.heap[gb101]? = some (.cells #[.string a1_0, .string a1_1] 31 (0, 0))) := ⟨by rw [← hq_]; exact (by (with_reducible repeat (first | refine blk_drewN ?_ _ | refine blk_drew ?_ | refine blk_alloc ?_ _)); exact BK101.out)⟩; have n3_ : Aside0 (Below w.heap.size w w68) := ⟨by rw [← hq_]; exact (by repeat (first | (with_reducible first | exact HB.out | apply below_alloc | apply pw_below_drewN | apply below_drew1 | refine below_set ?_ GE101.out) | exact HB.out))⟩; clear HO_10 HO_13 BK101 HB hq_; have HO_10 := n0_; have HO_13 := n1_; have BK101 := n2_; have HB := n3_; clear n0_ n1_ n2_ n3_))
                          have n0_ := Aside0.mk (KB.R_drew HO_10.out)
                          have n1_ := Aside0.mk (KB.R_drew HO_13.out)
                          have n2_ := Aside0.mk (blk_drew BK101.out)
                          have n3_ := Aside0.mk (below_drew1 HB.out)
                          clear HO_10
                          clear HO_13
                          clear BK101
                          clear HB
                          have HO_10 := n0_
                          have HO_13 := n1_
                          have BK101 := n2_
                          have HB := n3_
                          clear n0_ n1_ n2_ n3_
                          refine start_ (n := 12) (S := fun w' => w'.cell? ⟨gb101, 0, none⟩ = some (.string a1_0) ∧ w'.cell? ⟨gb101, 1, none⟩ = some (.string a1_1)) (ds := []) #[false, false, false, false, false, false, false, false, false, false, false, false] (by kernel_rfl) rfl rfl ⟨(blk_cell BK101.out 0).trans rfl, (blk_cell BK101.out 1).trans rfl⟩ (fun hHeld => ?_); refine with_tabW laws_FnExactSign.tab28 laws_FnExactSign.bits28 (fun HT_ HW_ => ?_)
                          generalize w68.drew = w69 at HO_10 HO_13 BK101 HB hHeld ⊢
                          refine pure_ (i := 0) (N := some 94) (v := ?_) (a' := ?_) #[true, false, false, false, false, false, false, false, false, false, false, false] rfl rfl (any_of HT_.out (by kernel_rfl)) (fun _ _ _ h => h) (Or.inl ⟨by rfl, ?_⟩) ?_ ?_
                          rotate_left
                          · intro w'
                            go_simp
                            with_reducible rfl
                          rotate_left
                          · simp only [Act.put, List.setIfInBounds_toArray, List.set_cons_zero, List.set_cons_succ, i64_w, i32_w]
                            rfl
                          refine pure_ (i := 4) (N := some 98) (v := ?_) (a' := ?_) #[true, false, false, false, true, false, false, false, false, false, false, false] rfl rfl (any_of HT_.out (by kernel_rfl)) (fun _ _ _ h => h) (Or.inl ⟨by rfl, ?_⟩) ?_ ?_
                          rotate_left
                          · intro w'
                            go_simp
                            with_reducible rfl
                          rotate_left
                          · simp only [Act.put, List.setIfInBounds_toArray, List.set_cons_zero, List.set_cons_succ, i64_w, i32_w]
                            rfl
                          refine pure_ (i := 5) (N := some 99) (v := ?_) (a' := ?_) #[true, false, false, false, true, true, false, false, false, false, false, false] rfl rfl (any_of HT_.out (by kernel_rfl)) (fun _ _ _ h => h) (Or.inl ⟨by rfl, ?_⟩) ?_ ?_
                          rotate_left
                          · intro w'
                            go_simp
                            with_reducible rfl
                          rotate_left
                          · simp only [Act.put, List.setIfInBounds_toArray, List.set_cons_zero, List.set_cons_succ, i64_w, i32_w]
                            rfl
                          refine take_ (i := 2) (N := some 96) (v := ?_) (a' := ?_) #[true, false, true, false, true, true, false, false, false, false, false, false] rfl rfl (take_ofW HT_.out HW_.out (by kernel_rfl)) (fun _ _ _ h => h) (Or.inl ⟨by rfl, ?_⟩) hHeld ?_ ?_
                          rotate_left
                          · rintro w' ⟨s0, s1⟩
                            go_simp
                            with_reducible rfl
                          rotate_left
                          · simp only [Act.put, List.setIfInBounds_toArray, List.set_cons_zero, List.set_cons_succ, i64_w, i32_w]
                            rfl
                          refine one_ (i := 1) (N := some 95) #[true, true, true, false, true, true, false, false, false, false, false, false] rfl rfl (one_of HT_.out (by kernel_rfl)) (by decide) (fun K hK => ?_)
                          refine goes_ Tryd.func7 (by kernel_rfl) rfl #[.slice A0 l0.length c0] (by rfl) rfl rfl (by (try simp only [List.map_toArray, List.map_cons, List.map_nil]); first | done | rfl | (simp only [List.length_drop, List.length_take]; rfl)) ?_
                          with_reducible refine (laws_toByteS.calls kj44 _ _ l0 t132 _ ?side1 ?side2 A63.out).mono ?_
                          (case side1 => repeat (first | exact (Kd.C_below HR0.out HB.out) | (with_reducible refine Kd.C_alloc ?_ _) | (with_reducible refine Kd.C_drewN ?_ _) | (with_reducible refine Kd.C_drew ?_)))
                          (case side2 => exact HC0.out)
                          rintro e w70 ⟨v133, rfl, ho0, hb⟩
                          replace ho0 := KB.of_R (d := Kd.int .u8) ho0 (Kd.R_reads_max ho0)
                          refine ⟨_, rfl, ?_⟩
                          have n0_ := Aside0.mk (KB.R_elder' (by (with_reducible repeat (first | apply KB.R_alloc | apply KB.R_drewN | apply KB.R_drew)); exact HO_10.out) (KB.R_base ho0) hb)
                          have n1_ := Aside0.mk (KB.R_elder' (by (with_reducible repeat (first | apply KB.R_alloc | apply KB.R_drewN | apply KB.R_drew)); exact HO_13.out) (KB.R_base ho0) hb)
                          have n2_ := Aside0.mk (KB.R_lower (KB.R_new' (KB.R_new' ho0 (KB.R_lt (by (with_reducible repeat (first | apply KB.R_alloc | apply KB.R_drewN | apply KB.R_drew)); exact HO_10.out))) (KB.R_lt (by (with_reducible repeat (first | apply KB.R_alloc | apply KB.R_drewN | apply KB.R_drew)); exact HO_13.out))) (below_size (by repeat (first | (with_reducible first | exact HB.out | apply below_alloc | apply pw_below_drewN | apply below_drew1 | refine below_set ?_ GE101.out) | exact HB.out))))
                          have n3_ := Aside0.mk (blk_below (g := gb101) (o := .cells #[.string a1_0, .string a1_1] 31 (0, 0)) (by (with_reducible repeat (first | refine blk_drewN ?_ _ | refine blk_drew ?_ | refine blk_alloc ?_ _)); exact BK101.out) hb)
                          have n4_ := Aside0.mk (below_step (by repeat (first | (with_reducible first | exact HB.out | apply below_alloc | apply pw_below_drewN | apply below_drew1 | refine below_set ?_ GE101.out) | exact HB.out)) hb)
                          clear HO_10
                          clear HO_13
                          clear BK101
                          clear HB
                          have HO_10 := n0_
                          have HO_13 := n1_
                          have HO134 := n2_
                          have BK101 := n3_
                          have HB := n4_
                          clear n0_ n1_ n2_ n3_ n4_
                          (try clear hb)
                          (try clear hb2)
                          (try clear hk)
                          (try clear hi)
                          (try clear ho0)
                          refine hK.out _ _ ⟨(blk_cell BK101.out 0).trans rfl, (blk_cell BK101.out 1).trans rfl⟩ (fun hHeld => ?_)
                          clear hK K
                          refine norm_ (a' := ?_) ?_ ?_
                          rotate_left
                          · show Act.put _ (some 95) _ = _
                            simp only [Act.put, List.setIfInBounds_toArray, List.set_cons_zero, List.set_cons_succ, i64_w, i32_w]
                            rfl
                          refine one_ (i := 3) (N := some 97) #[true, true, true, true, true, true, false, false, false, false, false, false] rfl rfl (one_of HT_.out (by kernel_rfl)) (by decide) (fun K hK => ?_)
                          refine goes_ Tryd.func15 (by kernel_rfl) rfl #[.agg #[.string a1_0, .string a1_1]] (by rfl) rfl rfl (by (try simp only [List.map_toArray, List.map_cons, List.map_nil]); first | done | rfl | (simp only [List.length_drop, List.length_take]; rfl)) ?_
                          with_reducible refine (laws_toKey.calls a1_0 a1_1 t135 t136 _ A64.out).mono ?_
                          rintro e w71 ⟨rfl, hb⟩
                          refine ⟨_, rfl, ?_⟩
                          have n0_ := Aside0.mk (KB.R_below (by (with_reducible repeat (first | apply KB.R_alloc | apply KB.R_drewN | apply KB.R_drew)); exact HO_10.out) hb)
                          have n1_ := Aside0.mk (KB.R_below (by (with_reducible repeat (first | apply KB.R_alloc | apply KB.R_drewN | apply KB.R_drew)); exact HO_13.out) hb)
                          have n2_ := Aside0.mk (KB.R_below (by (with_reducible repeat (first | apply KB.R_alloc | apply KB.R_drewN | apply KB.R_drew)); exact HO134.out) hb)
                          have n3_ := Aside0.mk (blk_below (g := gb101) (o := .cells #[.string a1_0, .string a1_1] 31 (0, 0)) (by (with_reducible repeat (first | refine blk_drewN ?_ _ | refine blk_drew ?_ | refine blk_alloc ?_ _)); exact BK101.out) hb)
                          have n4_ := Aside0.mk (below_step (by repeat (first | (with_reducible first | exact HB.out | apply below_alloc | apply pw_below_drewN | apply below_drew1 | refine below_set ?_ GE101.out) | exact HB.out)) hb)
                          clear HO_10
                          clear HO_13
                          clear HO134
                          clear BK101
                          clear HB
                          have HO_10 := n0_
                          have HO_13 := n1_
                          have HO134 := n2_
                          have BK101 := n3_
                          have HB := n4_
                          clear n0_ n1_ n2_ n3_ n4_
                          (try clear hb)
                          (try clear hb2)
                          (try clear hk)
                          (try clear hi)
                          obtain ⟨Ao72, co72, eo72⟩ := KB.R_slice HO134.out
                          (first | subst eo72 | (injection eo72 with f1_ f2_ f3_; have f4_ := f1_.symm; have f5_ := f3_.symm; clear f1_ f2_ f3_; subst f4_; subst f5_))
                          refine hK.out _ _ ⟨(blk_cell BK101.out 0).trans rfl, (blk_cell BK101.out 1).trans rfl⟩ (fun hHeld => ?_)
                          clear hK K
                          refine norm_ (a' := ?_) ?_ ?_
                          rotate_left
                          · show Act.put _ (some 97) _ = _
                            simp only [Act.put, List.setIfInBounds_toArray, List.set_cons_zero, List.set_cons_succ, i64_w, i32_w]
                            rfl
                          refine one_ (i := 6) (N := some 100) #[true, true, true, true, true, true, true, false, false, false, false, false] rfl rfl (one_of HT_.out (by kernel_rfl)) (by decide) (fun K hK => ?_)
                          refine goes_ Tryd.func16 (by kernel_rfl) rfl #[.slice Ao72 t132.length co72, .agg #[.string t135, .string t136], .int .i64 a2, .string a3] (by rfl) rfl rfl (by (try simp only [List.map_toArray, List.map_cons, List.map_nil]); first | done | rfl | (simp only [List.length_drop, List.length_take]; rfl)) ?_
                          with_reducible refine (impl_Sign.calls kj44 _ _ t132 t135 t136 a2 a3 t137 t140 _ ?side1 ?side2 A65.out (HGK.out.below (by repeat (first | (with_reducible first | exact HB.out | apply below_alloc | apply pw_below_drewN | apply below_drew1) | exact HB.out)))).mono ?_
                          (case side1 => repeat (first | exact (KB.R_reads' HO134.out).2.2 | (with_reducible refine Kd.C_alloc ?_ _) | (with_reducible refine Kd.C_drewN ?_ _) | (with_reducible refine Kd.C_drew ?_)))
                          (case side2 => exact (KB.R_reads' HO134.out).2.1)
                          rintro e w73 ⟨v138, rfl, ho0, hb⟩
                          refine ⟨_, rfl, ?_⟩
                          have n0_ := Aside0.mk (KB.R_elder' (by (with_reducible repeat (first | apply KB.R_alloc | apply KB.R_drewN | apply KB.R_drew)); exact HO_10.out) (KB.R_base ho0) hb)
                          have n1_ := Aside0.mk (KB.R_elder' (by (with_reducible repeat (first | apply KB.R_alloc | apply KB.R_drewN | apply KB.R_drew)); exact HO_13.out) (KB.R_base ho0) hb)
                          have n2_ := Aside0.mk (KB.R_elder' (by (with_reducible repeat (first | apply KB.R_alloc | apply KB.R_drewN | apply KB.R_drew)); exact HO134.out) (KB.R_base ho0) hb)
                          have n3_ := Aside0.mk (KB.R_lower (KB.R_new' (KB.R_new' (KB.R_new' ho0 (KB.R_lt (by (with_reducible repeat (first | apply KB.R_alloc | apply KB.R_drewN | apply KB.R_drew)); exact HO_10.out))) (KB.R_lt (by (with_reducible repeat (first | apply KB.R_alloc | apply KB.R_drewN | apply KB.R_drew)); exact HO_13.out))) (KB.R_lt (by (with_reducible repeat (first | apply KB.R_alloc | apply KB.R_drewN | apply KB.R_drew)); exact HO134.out))) (below_size (by repeat (first | (with_reducible first | exact HB.out | apply below_alloc | apply pw_below_drewN | apply below_drew1 | refine below_set ?_ GE101.out) | exact HB.out))))
                          have n4_ := Aside0.mk (blk_below (g := gb101) (o := .cells #[.string a1_0, .string a1_1] 31 (0, 0)) (by (with_reducible repeat (first | refine blk_drewN ?_ _ | refine blk_drew ?_ | refine blk_alloc ?_ _)); exact BK101.out) hb)
                          have n5_ := Aside0.mk (below_step (by repeat (first | (with_reducible first | exact HB.out | apply below_alloc | apply pw_below_drewN | apply below_drew1 | refine below_set ?_ GE101.out) | exact HB.out)) hb)
                          clear HO_10
                          clear HO_13
                          clear HO134
                          clear BK101
                          clear HB
                          have HO_10 := n0_
                          have HO_13 := n1_
                          have HO134 := n2_
                          have HO139 := n3_
                          have BK101 := n4_
                          have HB := n5_
                          clear n0_ n1_ n2_ n3_ n4_ n5_
                          (try clear hb)
                          (try clear hb2)
                          (try clear hk)
                          (try clear hi)
                          (try clear ho0)
                          refine hK.out _ _ ⟨(blk_cell BK101.out 0).trans rfl, (blk_cell BK101.out 1).trans rfl⟩ (fun hHeld => ?_)
                          clear hK K
                          refine norm_ (a' := ?_) ?_ ?_
                          rotate_left
                          · show Act.put _ (some 100) _ = _
                            simp only [Act.put, List.setIfInBounds_toArray, List.set_cons_zero, List.set_cons_succ, i64_w, i32_w]
                            rfl
                          refine pure_ (i := 7) (N := some 93) (v := ?_) (a' := ?_) #[true, true, true, true, true, true, true, true, false, false, false, false] rfl rfl (any_of HT_.out (by kernel_rfl)) (fun _ _ _ h => h) (Or.inl ⟨by rfl, ?_⟩) ?_ ?_
                          rotate_left
                          · intro w'
                            go_simp
                            with_reducible rfl
                          rotate_left
                          · simp only [Act.put, List.setIfInBounds_toArray, List.set_cons_zero, List.set_cons_succ, i64_w, i32_w]
                            rfl
                          refine pure_ (i := 8) (N := some 101) (v := ?_) (a' := ?_) #[true, true, true, true, true, true, true, true, true, false, false, false] rfl rfl (any_of HT_.out (by kernel_rfl)) (fun _ _ _ h => h) (Or.inl ⟨by rfl, ?_⟩) ?_ ?_
                          rotate_left
                          · intro w'
                            go_simp
                            with_reducible rfl
                          rotate_left
                          · simp only [Act.put, List.setIfInBounds_toArray, List.set_cons_zero, List.set_cons_succ, i64_w, i32_w]
                            rfl
                          refine pure_ (i := 9) (N := some 102) (v := ?_) (a' := ?_) #[true, true, true, true, true, true, true, true, true, true, false, false] rfl rfl (any_of HT_.out (by kernel_rfl)) (fun _ _ _ h => h) (Or.inl ⟨by rfl, ?_⟩) ?_ ?_
                          rotate_left
                          · intro w'
                            go_simp
                            with_reducible rfl
                          rotate_left
                          · simp only [Act.put, List.setIfInBounds_toArray, List.set_cons_zero, List.set_cons_succ, i64_w, i32_w]
                            rfl
                          refine pure_ (i := 10) (N := some 18) (v := ?_) (a' := ?_) #[true, true, true, true, true, true, true, true, true, true, true, false] rfl rfl (any_of HT_.out (by kernel_rfl)) (fun _ _ _ h => h) (Or.inl ⟨by rfl, ?_⟩) ?_ ?_
                          rotate_left
                          · intro w'
                            go_simp
                            with_reducible rfl
                          rotate_left
                          · simp only [Act.put, List.setIfInBounds_toArray, List.set_cons_zero, List.set_cons_succ, i64_w, i32_w]
                            rfl
                          refine pure_ (i := 11) (N := some 19) (v := ?_) (a' := ?_) #[true, true, true, true, true, true, true, true, true, true, true, true] rfl rfl (any_of HT_.out (by kernel_rfl)) (fun _ _ _ h => h) (Or.inl ⟨by rfl, ?_⟩) ?_ ?_
                          rotate_left
                          · intro w'
                            go_simp
                            with_reducible rfl
                          rotate_left
                          · simp only [Act.put, List.setIfInBounds_toArray, List.set_cons_zero, List.set_cons_succ, i64_w, i32_w]
                            rfl
                          refine done_ (done_of HT_.out (by kernel_rfl)) ?_
                          go_upto_region 29 with (fail)
                          go_cut [111] (fun v111 wc => ∃ (kq : Nat) (x111_65 : Bool), v111 = .bool x111_65 ∧ Aside0 (laws_FnExactSign.j2 kq t130 t129 x111_65 = some r) ∧ Aside0 (kq ≤ kj44) ∧ Aside0 (KB.R (Kd.int .u8) 5 wc w.heap.size (fun _ => True) (.slice Ao67 t117.length co67) t130) ∧ Aside0 (wc.heap[gb101]? = some (.cells #[.string a1_0, .string a1_1] 31 (0, 0))) ∧ Aside0 (Below w.heap.size w wc))
                          case first =>
                            have H := HC66.out
                            clear HC66
                            replace H := Option.bind_eq_some_iff.mp H
                            obtain ⟨t141, A740, H⟩ := H
                            replace H : (if t141 = true then (laws_FnExactSign.j2 kj44 t130 t129 (t140 != t111)) else (laws_FnExactSign.j2 kj44 t130 t129 true)) = some r := H
                            have A74 := Aside0.mk A740
                            clear A740
                            by_cases c75 : t141 = true
                            · subst c75
                              have H1 : (laws_FnExactSign.j2 kj44 t130 t129 (t140 != t111)) = some r := by rw [if_pos rfl] at H; exact H
                              clear H
                              have H := H1
                              clear H1
                              have H' := Aside0.mk H
                              clear H
                              obtain ⟨Ao76, co76, eo76⟩ := KB.R_slice HO139.out
                              subst eo76
                              obtain ⟨Ao77, co77, eo77⟩ := KB.R_slice HO_10.out
                              subst eo77
                              go_wp2_with (first | ((with_reducible refine gate_callee (f := 10) rfl ?_); refine goesL_ (some 105) rfl rfl Tryd.func10 (by kernel_rfl) rfl #[.slice Ao76 t137.length co76, .slice Ao77 t108.length co77] rfl (by (try simp only [List.map_toArray, List.map_cons, List.map_nil]); first | done | rfl | (simp only [List.length_drop, List.length_take]; rfl)) ?_; (with_reducible refine (laws_eqByteS.calls kj44 _ _ t137 _ _ t108 true _ ?side1 ?side2 ?side3 ?side4 A74.out).mono ?_); (case side1 => repeat (first | exact (KB.R_reads' HO139.out).2.2 | (with_reducible refine Kd.C_alloc ?_ _) | (with_reducible refine Kd.C_drewN ?_ _) | (with_reducible refine Kd.C_drew ?_))); (case side2 => exact (KB.R_reads' HO139.out).2.1); (case side3 => repeat (first | exact (KB.R_reads' HO_10.out).2.2 | (with_reducible refine Kd.C_alloc ?_ _) | (with_reducible refine Kd.C_drewN ?_ _) | (with_reducible refine Kd.C_drew ?_))); (case side4 => exact (KB.R_reads' HO_10.out).2.1); rintro e w' ⟨rfl, ⟨nd, rfl⟩⟩; refine ⟨_, rfl, ?_⟩))
                              go_meet
                              case rel => exact ⟨_, ((t140 != t111)), (by first | rfl | (simp; done) | (simp [*]; done)), H', ⟨by have := HJ19.out; have := HJ44.out; first | omega | exact Nat.le_refl _⟩, ⟨by (with_reducible repeat (first | apply KB.R_alloc | apply KB.R_drewN | apply KB.R_drew)); exact KB.R_mono HO_13.out (fun _ hk => trivial)⟩, ⟨by (with_reducible repeat (first | refine blk_drewN ?_ _ | refine blk_drew ?_ | refine blk_alloc ?_ _)); exact BK101.out⟩, ⟨by repeat (first | (with_reducible first | exact HB.out | apply below_alloc | apply pw_below_drewN | apply below_drew1 | refine below_set ?_ GE101.out) | exact HB.out)⟩⟩
                            · replace c75 := Bool.eq_false_iff.mpr c75
                              subst c75
                              have H1 : (laws_FnExactSign.j2 kj44 t130 t129 true) = some r := by rw [if_neg (show ¬ (false = true) by decide)] at H; exact H
                              clear H
                              have H := H1
                              clear H1
                              have H' := Aside0.mk H
                              clear H
                              obtain ⟨Ao78, co78, eo78⟩ := KB.R_slice HO139.out
                              subst eo78
                              obtain ⟨Ao79, co79, eo79⟩ := KB.R_slice HO_10.out
                              subst eo79
                              go_wp2_with (first | ((with_reducible refine gate_callee (f := 10) rfl ?_); refine goesL_ (some 105) rfl rfl Tryd.func10 (by kernel_rfl) rfl #[.slice Ao78 t137.length co78, .slice Ao79 t108.length co79] rfl (by (try simp only [List.map_toArray, List.map_cons, List.map_nil]); first | done | rfl | (simp only [List.length_drop, List.length_take]; rfl)) ?_; (with_reducible refine (laws_eqByteS.calls kj44 _ _ t137 _ _ t108 false _ ?side1 ?side2 ?side3 ?side4 A74.out).mono ?_); (case side1 => repeat (first | exact (KB.R_reads' HO139.out).2.2 | (with_reducible refine Kd.C_alloc ?_ _) | (with_reducible refine Kd.C_drewN ?_ _) | (with_reducible refine Kd.C_drew ?_))); (case side2 => exact (KB.R_reads' HO139.out).2.1); (case side3 => repeat (first | exact (KB.R_reads' HO_10.out).2.2 | (with_reducible refine Kd.C_alloc ?_ _) | (with_reducible refine Kd.C_drewN ?_ _) | (with_reducible refine Kd.C_drew ?_))); (case side4 => exact (KB.R_reads' HO_10.out).2.1); rintro e w' ⟨rfl, ⟨nd, rfl⟩⟩; refine ⟨_, rfl, ?_⟩))
                              go_meet
                              case rel => exact ⟨_, (true), (by first | rfl | (simp; done) | (simp [*]; done)), H', ⟨by have := HJ19.out; have := HJ44.out; first | omega | exact Nat.le_refl _⟩, ⟨by (with_reducible repeat (first | apply KB.R_alloc | apply KB.R_drewN | apply KB.R_drew)); exact KB.R_mono HO_13.out (fun _ hk => trivial)⟩, ⟨by (with_reducible repeat (first | refine blk_drewN ?_ _ | refine blk_drew ?_ | refine blk_alloc ?_ _)); exact BK101.out⟩, ⟨by repeat (first | (with_reducible first | exact HB.out | apply below_alloc | apply pw_below_drewN | apply below_drew1 | refine below_set ?_ GE101.out) | exact HB.out)⟩⟩
                          case rest =>
                            clear HC66
                            try clear c1
                            try clear p2
                            try clear c3
                            try clear c4
                            try clear c5
                            try clear c5b0
                            try clear c5b1
                            try clear c6
                            try clear c7
                            try clear c7b0
                            try clear c7b1
                            try clear c10
                            try clear c10b0
                            try clear c13
                            try clear c14
                            try clear c15
                            try clear c16
                            try clear c17
                            try clear c18
                            try clear c35
                            try clear c40
                            try clear c43
                            try clear c49
                            try clear c49b0
                            try clear c51
                            try clear c56
                            try clear c59
                            try clear c59b0
                            try clear c62
                            try clear c62b0
                            try clear c62b1
                            try clear c75
                            try clear hcz12_0
                            try clear hcz12_1
                            try clear hcz22_0
                            try clear hcz22_1
                            try clear hcz30_0
                            try clear hcz30_1
                            try clear hfz12_0
                            try clear hfz12_1
                            try clear hfz22_0
                            try clear hfz22_1
                            try clear hfz30_0
                            try clear hfz30_1
                            try clear p2
                            obtain ⟨kq, x111_65, rfl, HA, HJ65, HO_13, BK101, HB⟩ := hcut
                            have hl13_65 := (KB.R_reads' HO_13.out).1
                            rw [hl13_65] at HO_13
                            (try simp only [hl13_65])
                            (try simp only [hl13_65] at BK101)
                            cases kq with
                            | zero => exact absurd HA.out (by simp [laws_FnExactSign.j2])
                            | succ kj65 =>
                              have H := HA.out
                              clear HA
                              simp only [laws_FnExactSign.j2] at H
                              by_cases c80 : x111_65 = true
                              · subst c80
                                have H1 : (some false) = some r := by rw [if_pos rfl] at H; exact H
                                clear H
                                have H := H1
                                clear H1
                                obtain rfl := Option.some.inj H
                                go_wp2
                                go_ret
                                exact ⟨by first | rfl | (simp [errW_none, errW_some] <;> rfl) | (simp [*, errW_none, errW_some] <;> rfl), by repeat (first | (with_reducible first | exact HB.out | apply below_alloc | apply pw_below_drewN | apply below_drew1 | refine below_set ?_ GE101.out) | exact HB.out)⟩
                              · replace c80 := Bool.eq_false_iff.mpr c80
                                subst c80
                                have H1 : ((laws_heldByteS.f kj65 t130 1).bind fun t142 => (if t142 < 0 then (some false) else (if t142 = t129 then (some true) else (some false)))) = some r := by rw [if_neg (show ¬ (false = true) by decide)] at H; exact H
                                clear H
                                have H := H1
                                clear H1
                                replace H := Option.bind_eq_some_iff.mp H
                                obtain ⟨t142, A810, H⟩ := H
                                replace H : (if t142 < 0 then (some false) else (if t142 = t129 then (some true) else (some false))) = some r := H
                                have A81 := Aside0.mk A810
                                clear A810
                                by_cases c82 : t142 < 0
                                · rw [if_pos c82] at H
                                  have c82b0 : decide (t142 < 0) = true := decide_eq_true c82
                                  clear c82
                                  obtain rfl := Option.some.inj H
                                  go_wp2_with (first | ((with_reducible refine gate_callee (f := 18) rfl ?_); refine goesL_ (some 114) rfl rfl Tryd.func18 (by kernel_rfl) rfl #[.slice Ao67 t130.length co67, .int .i64 1] rfl (by (try simp only [List.map_toArray, List.map_cons, List.map_nil]); first | done | rfl | (simp only [List.length_drop, List.length_take]; rfl)) ?_; (with_reducible refine (laws_heldByteS.calls kj65 _ _ t130 1 t142 _ ?side1 ?side2 A81.out).mono ?_); (case side1 => repeat (first | exact (KB.R_reads' HO_13.out).2.2 | (with_reducible refine Kd.C_alloc ?_ _) | (with_reducible refine Kd.C_drewN ?_ _) | (with_reducible refine Kd.C_drew ?_))); (case side2 => exact (KB.R_reads' HO_13.out).2.1); rintro e w' ⟨rfl, ⟨nd, rfl⟩⟩; refine ⟨_, rfl, ?_⟩))
                                  go_ret
                                  exact ⟨by first | rfl | (simp [errW_none, errW_some] <;> rfl) | (simp [*, errW_none, errW_some] <;> rfl), by repeat (first | (with_reducible first | exact HB.out | apply below_alloc | apply pw_below_drewN | apply below_drew1 | refine below_set ?_ GE101.out) | exact HB.out)⟩
                                · rw [if_neg c82] at H
                                  have c82b0 : decide (t142 < 0) = false := decide_eq_false c82
                                  clear c82
                                  by_cases c83 : t142 = t129
                                  · rw [if_pos c83] at H
                                    have c83b0 : (t142 == t129) = true := beq_iff_eq.mpr c83
                                    have c83b1 : (t142 != t129) = false := bne_eq_false_iff_eq.mpr c83
                                    clear c83
                                    obtain rfl := Option.some.inj H
                                    go_wp2_with (first | ((with_reducible refine gate_callee (f := 18) rfl ?_); refine goesL_ (some 114) rfl rfl Tryd.func18 (by kernel_rfl) rfl #[.slice Ao67 t130.length co67, .int .i64 1] rfl (by (try simp only [List.map_toArray, List.map_cons, List.map_nil]); first | done | rfl | (simp only [List.length_drop, List.length_take]; rfl)) ?_; (with_reducible refine (laws_heldByteS.calls kj65 _ _ t130 1 t142 _ ?side1 ?side2 A81.out).mono ?_); (case side1 => repeat (first | exact (KB.R_reads' HO_13.out).2.2 | (with_reducible refine Kd.C_alloc ?_ _) | (with_reducible refine Kd.C_drewN ?_ _) | (with_reducible refine Kd.C_drew ?_))); (case side2 => exact (KB.R_reads' HO_13.out).2.1); rintro e w' ⟨rfl, ⟨nd, rfl⟩⟩; refine ⟨_, rfl, ?_⟩))
                                    go_ret
                                    exact ⟨by first | rfl | (simp [errW_none, errW_some] <;> rfl) | (simp [*, errW_none, errW_some] <;> rfl), by repeat (first | (with_reducible first | exact HB.out | apply below_alloc | apply pw_below_drewN | apply below_drew1 | refine below_set ?_ GE101.out) | exact HB.out)⟩
                                  · rw [if_neg c83] at H
                                    have c83b0 : (t142 == t129) = false := beq_eq_false_iff_ne.mpr c83
                                    have c83b1 : (t142 != t129) = true := bne_iff_ne.mpr c83
                                    obtain rfl := Option.some.inj H
                                    go_wp2_with (first | ((with_reducible refine gate_callee (f := 18) rfl ?_); refine goesL_ (some 114) rfl rfl Tryd.func18 (by kernel_rfl) rfl #[.slice Ao67 t130.length co67, .int .i64 1] rfl (by (try simp only [List.map_toArray, List.map_cons, List.map_nil]); first | done | rfl | (simp only [List.length_drop, List.length_take]; rfl)) ?_; (with_reducible refine (laws_heldByteS.calls kj65 _ _ t130 1 t142 _ ?side1 ?side2 A81.out).mono ?_); (case side1 => repeat (first | exact (KB.R_reads' HO_13.out).2.2 | (with_reducible refine Kd.C_alloc ?_ _) | (with_reducible refine Kd.C_drewN ?_ _) | (with_reducible refine Kd.C_drew ?_))); (case side2 => exact (KB.R_reads' HO_13.out).2.1); rintro e w' ⟨rfl, ⟨nd, rfl⟩⟩; refine ⟨_, rfl, ?_⟩))
                                    go_ret
                                    exact ⟨by first | rfl | (simp [errW_none, errW_some] <;> rfl) | (simp [*, errW_none, errW_some] <;> rfl), by repeat (first | (with_reducible first | exact HB.out | apply below_alloc | apply pw_below_drewN | apply below_drew1 | refine below_set ?_ GE101.out) | exact HB.out)⟩
                        · rw [if_neg c62] at H
                          have c62b0 : (t131 == t129) = false := beq_eq_false_iff_ne.mpr c62
                          have c62b1 : (t131 != t129) = true := bne_iff_ne.mpr c62
                          obtain rfl := Option.some.inj H
                          obtain ⟨Ao84, co84, eo84⟩ := KB.R_slice HO_13.out
                          subst eo84
                          go_wp2_with (first | ((with_reducible refine gate_callee (f := 17) rfl ?_); refine goesL_ (some 84) rfl rfl Tryd.func17 (by kernel_rfl) rfl #[.slice Ao84 t117.length co84, .int .i64 1] rfl (by (try simp only [List.map_toArray, List.map_cons, List.map_nil]); first | done | rfl | (simp only [List.length_drop, List.length_take]; rfl)) ?_; (with_reducible refine (laws_markByteS.calls kj44 (fun k_ => some k_ = (.slice Ao84 t117.length co84 : Value).ownBlock) (.slice Ao84 t117.length co84) t117 1 t129 t130 w _ ?side1 ?side2 A57.out).mono ?_); (case side1 => repeat (first | (with_reducible first | exact HB.out | apply below_alloc | apply pw_below_drewN | apply below_drew1 | refine below_set ?_ GE101.out) | exact HB.out)); (case side2 => exact KB.R_tight rfl HO_13.out); rintro e w85 ⟨rfl, hy0, hb, hkp⟩; refine ⟨_, rfl, ?_⟩; have n0_ := Aside0.mk (KB.R_mono (ok' := fun k_ => some k_ ≠ (.slice Ao84 t117.length co84 : Value).ownBlock) (KB.R_keptB (HO_10.out) hkp (fun k_ hk_ hs_ => (hk_) hs_)) (fun k_ hk_ => hk_.1)); have n1_ := Aside0.mk (KB.R_reok rfl hy0 (fun k_ e_ => HO_13.out.1 k_ e_)); have n2_ := Aside0.mk (blk_kept (by (with_reducible repeat (first | refine blk_drewN ?_ _ | refine blk_drew ?_ | refine blk_alloc ?_ _)); exact BK101.out) hkp (fun hs_ => (fun e_ => (KB.R_ne HO_13.out BK101.out (by decide)) e_) hs_)); have n3_ := Aside0.mk (hb); clear HO_10; clear HO_13; clear BK101; clear HB; have HO_10 := n0_; have HO_13 := n1_; have BK101 := n2_; have HB := n3_; clear n0_ n1_ n2_ n3_; (try clear hb); (try clear hkp); (try clear hy0)) | ((with_reducible refine gate_callee (f := 18) rfl ?_); refine goesL_ (some 87) rfl rfl Tryd.func18 (by kernel_rfl) rfl #[.slice Ao84 t130.length co84, .int .i64 1] rfl (by (try simp only [List.map_toArray, List.map_cons, List.map_nil]); first | done | (rw [show t130.length = t117.length from (KB.R_reads' HO_13.out).1.symm] <;> rfl) | rfl | (simp only [List.length_drop, List.length_take]; rfl)) ?_; (with_reducible refine (laws_heldByteS.calls kj44 _ _ t130 1 t131 _ ?side1 ?side2 A58.out).mono ?_); (case side1 => repeat (first | exact (KB.R_reads' HO_13.out).2.2 | (with_reducible refine Kd.C_alloc ?_ _) | (with_reducible refine Kd.C_drewN ?_ _) | (with_reducible refine Kd.C_drew ?_))); (case side2 => rw [show t130.length = t117.length from (KB.R_reads' HO_13.out).1.symm]; exact (KB.R_reads' HO_13.out).2.1); rintro e w' ⟨rfl, ⟨nd, rfl⟩⟩; refine ⟨_, rfl, ?_⟩))
                          go_ret
                          exact ⟨by first | rfl | (simp [errW_none, errW_some] <;> rfl) | (simp [*, errW_none, errW_some] <;> rfl), by repeat (first | (with_reducible first | exact HB.out | apply below_alloc | apply pw_below_drewN | apply below_drew1 | refine below_set ?_ GE101.out) | exact HB.out)⟩
              · replace c43 := Bool.eq_false_iff.mpr c43
                subst c43
                have H1 : (some false) = some r := by rw [if_neg (show ¬ (false = true) by decide)] at H; exact H
                clear H
                have H := H1
                clear H1
                obtain rfl := Option.some.inj H
                go_wp2_with (first | ((with_reducible refine gate_callee (f := 7) rfl ?_); refine goesL_ (some 63) rfl rfl Tryd.func7 (by kernel_rfl) rfl #[.slice A0 l0.length c0] rfl (by (try simp only [List.map_toArray, List.map_cons, List.map_nil]); first | done | rfl | (simp only [List.length_drop, List.length_take]; rfl)) ?_; (with_reducible refine (laws_toByteS.calls kj19 _ _ l0 t122 _ ?side1 ?side2 A41.out).mono ?_); (case side1 => repeat (first | exact (Kd.C_below HR0.out HB.out) | (with_reducible refine Kd.C_alloc ?_ _) | (with_reducible refine Kd.C_drewN ?_ _) | (with_reducible refine Kd.C_drew ?_))); (case side2 => exact HC0.out); rintro e w86 ⟨v123, rfl, ho0_, hb⟩; have ho0 := KB.of_R (d := Kd.int .u8) ho0_ (Kd.R_reads_max ho0_); clear ho0_; refine ⟨_, rfl, ?_⟩; have n0_ := Aside0.mk (KB.R_elder' (by (with_reducible repeat (first | apply KB.R_alloc | apply KB.R_drewN | apply KB.R_drew)); exact HO_10.out) (KB.R_base ho0) hb); have n1_ := Aside0.mk (KB.R_elder' (by (with_reducible repeat (first | apply KB.R_alloc | apply KB.R_drewN | apply KB.R_drew)); exact HO_12.out) (KB.R_base ho0) hb); have n2_ := Aside0.mk (KB.R_elder' (by (with_reducible repeat (first | apply KB.R_alloc | apply KB.R_drewN | apply KB.R_drew)); exact HO_13.out) (KB.R_base ho0) hb); have n3_ := Aside0.mk (KB.R_lower (KB.R_new' (KB.R_new' (KB.R_new' ho0 (KB.R_lt (by (with_reducible repeat (first | apply KB.R_alloc | apply KB.R_drewN | apply KB.R_drew)); exact HO_10.out))) (KB.R_lt (by (with_reducible repeat (first | apply KB.R_alloc | apply KB.R_drewN | apply KB.R_drew)); exact HO_12.out))) (KB.R_lt (by (with_reducible repeat (first | apply KB.R_alloc | apply KB.R_drewN | apply KB.R_drew)); exact HO_13.out))) (below_size (by repeat (first | (with_reducible first | exact HB.out | apply below_alloc | apply pw_below_drewN | apply below_drew1 | refine below_set ?_ GE101.out) | exact HB.out)))); have n4_ := Aside0.mk (blk_below (g := gb101) (o := .cells #[.string a1_0, .string a1_1] 31 (0, 0)) (by (with_reducible repeat (first | refine blk_drewN ?_ _ | refine blk_drew ?_ | refine blk_alloc ?_ _)); exact BK101.out) hb); have n5_ := Aside0.mk (below_step (by repeat (first | (with_reducible first | exact HB.out | apply below_alloc | apply pw_below_drewN | apply below_drew1 | refine below_set ?_ GE101.out) | exact HB.out)) hb); clear HO_10; clear HO_12; clear HO_13; clear BK101; clear HB; have HO_10 := n0_; have HO_12 := n1_; have HO_13 := n2_; have HO124 := n3_; have BK101 := n4_; have HB := n5_; clear n0_ n1_ n2_ n3_ n4_ n5_; (try clear hb); (try clear hb2); (try clear hk); (try clear hi); (try clear ho0); obtain ⟨Ao87, co87, eo87⟩ := KB.R_slice HO124.out; subst eo87) | ((with_reducible refine gate_callee (f := 10) rfl ?_); refine goesL_ (some 64) rfl rfl Tryd.func10 (by kernel_rfl) rfl #[.slice Ao32 t112.length co32, .slice Ao87 t122.length co87] rfl (by (try simp only [List.map_toArray, List.map_cons, List.map_nil]); first | done | rfl | (simp only [List.length_drop, List.length_take]; rfl)) ?_; (with_reducible refine (laws_eqByteS.calls kj19 _ _ t112 _ _ t122 false _ ?side1 ?side2 ?side3 ?side4 A42.out).mono ?_); (case side1 => repeat (first | exact (KB.R_reads' HO_12.out).2.2 | (with_reducible refine Kd.C_alloc ?_ _) | (with_reducible refine Kd.C_drewN ?_ _) | (with_reducible refine Kd.C_drew ?_))); (case side2 => exact (KB.R_reads' HO_12.out).2.1); (case side3 => repeat (first | exact (KB.R_reads' HO124.out).2.2 | (with_reducible refine Kd.C_alloc ?_ _) | (with_reducible refine Kd.C_drewN ?_ _) | (with_reducible refine Kd.C_drew ?_))); (case side4 => exact (KB.R_reads' HO124.out).2.1); rintro e w' ⟨rfl, ⟨nd, rfl⟩⟩; refine ⟨_, rfl, ?_⟩))
                go_ret
                exact ⟨by first | rfl | (simp [errW_none, errW_some] <;> rfl) | (simp [*, errW_none, errW_some] <;> rfl), by repeat (first | (with_reducible first | exact HB.out | apply below_alloc | apply pw_below_drewN | apply below_drew1 | refine below_set ?_ GE101.out) | exact HB.out)⟩

end Go.Proofs.YtblpeegpjjcemaaDoor.F
