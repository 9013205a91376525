/- Part 2 of 2 of the proof of FnExactReplaceTail: what each Go function on its way computes, that the Go code does just this, and what the law says of it. No condition beyond the statement's own. -/
import Derived.Test.YtpbmnokmpihnjaaWWords
import Derived.Test.YtpbmnokmpihnjaaWMore
import Derived.Lib.Bytes
import Derived.Lib.Bytealg
import Derived.Test.YtpbmnokmpihnjaaRows
import Derived.WalkKit
import Derived.ProofKit
import Derived.OpenShut
import Derived.ShutString
import Derived.ChangeOld
import Derived.Below
import Derived.SizedLaws
import Derived.Test.YtpbmnokmpihnjaaMFnExactReplaceTail1
namespace Go.Proofs.Ytpbmnokmpihnjaa.F
open Go Go.Shelf Go.RowKit Go.Proofs.YtpbmnokmpihnjaaW.PrintWords Go.Proofs.YtpbmnokmpihnjaaW.PrintLast Go.Proofs.YtpbmnokmpihnjaaW.PrintMore
attribute [local go_sem] max2_int min2_int max_two min_two max_three min_three max_four min_four   -- for this text's walks alone
set_option linter.unusedVariables false
set_option linter.unusedSimpArgs false

/-! ### impl_ReplaceTail: function 15 -/
def impl_ReplaceTail.j0 : Nat → ByteArray → ByteArray → List ByteArray → List ByteArray → List ByteArray → Bool → Option (ByteArray × Int)
  | 0, _, _, _, _, _, _ => none
  | k + 1, x0, x1, x8, x10, x12, x39 => if x39 = true then (some ((⟨#[]⟩ : ByteArray), 32)) else ((impl_strictly.f k x0 x1).bind fun t113 => (if t113 = true then ((some (([] : List ByteArray) : List ByteArray)).bind fun y114 => (if 0 ≤ (wrap64 ((x8.length : Int) - (x10.length : Int))) then (if (wrap64 ((x8.length : Int) - (x10.length : Int))) ≤ (x8.length : Int) then ((some (x8.take ((wrap64 ((x8.length : Int) - (x10.length : Int))) : Int).toNat : List ByteArray)).bind fun y117 => (if y114.length + y117.length < 8796093022208 then ((some (y114 ++ y117 : List ByteArray)).bind fun y121 => (if y121.length + x12.length < 8796093022208 then ((impl_joined.f (y121 ++ x12)).bind fun t127 => (if (t127.size : Int) > 255 then (some ((⟨#[]⟩ : ByteArray), 3)) else (some (t127, 0)))) else (none))) else (none))) else (none)) else (none))) else (some ((⟨#[]⟩ : ByteArray), 22))))
def impl_ReplaceTail.f (k : Nat) (a0 : ByteArray) (a1 : ByteArray) (a2 : ByteArray) : Option (ByteArray × Int) := (impl_labelsOf.f k a0).bind fun bt101 => ((impl_labelsOf.f k a1).bind fun bt105 => ((impl_labelsOf.f k a2).bind fun bt109 => (if bt101.2 = true then (if bt105.2 = true then (impl_ReplaceTail.j0 k a0 a1 bt101.1 bt105.1 bt109.1 (!bt109.2)) else (impl_ReplaceTail.j0 k a0 a1 bt101.1 bt105.1 bt109.1 true)) else (impl_ReplaceTail.j0 k a0 a1 bt101.1 bt105.1 bt109.1 true))))
theorem impl_ReplaceTail.mono_l : ∀ k, (∀ y0 y1 y2 y3 y4 y5, LeO (impl_ReplaceTail.j0 k y0 y1 y2 y3 y4 y5) (impl_ReplaceTail.j0 (k + 1) y0 y1 y2 y3 y4 y5))
  | 0 => fun _ _ _ _ _ _ r h => by simp [impl_ReplaceTail.j0] at h
  | k + 1 => by
    have ih0 := impl_ReplaceTail.mono_l k
    · intro y0 y1 y2 y3 y4 y5
      unfold impl_ReplaceTail.j0
      repeat' first
      | (with_reducible exact ih0 _ _ _ _ _ _)
      | (with_reducible exact impl_labelsOf.mono _ _)
      | (with_reducible exact impl_strictly.mono _ _ _)
      | (with_reducible exact LeO.refl _)
      | (with_reducible exact LeO.none _)
      | (with_reducible refine LeO.ite ?_ ?_)
      | (with_reducible refine LeO.bind ?_ (fun _ => ?_))
      | exact ih0 _ _ _ _ _ _
      | exact impl_labelsOf.mono _ _
      | exact impl_strictly.mono _ _ _
      | exact LeO.none _
      | refine LeO.ite ?_ ?_
      | refine LeO.bind ?_ (fun _ => ?_)
theorem impl_ReplaceTail.mono : ∀ a0 a1 a2 k, LeO (impl_ReplaceTail.f k a0 a1 a2) (impl_ReplaceTail.f (k + 1) a0 a1 a2) := by
  intro a0 a1 a2 k
  have ih0 := impl_ReplaceTail.mono_l k
  unfold impl_ReplaceTail.f
  repeat' first
      | (with_reducible exact ih0 _ _ _ _ _ _)
      | (with_reducible exact impl_labelsOf.mono _ _)
      | (with_reducible exact impl_strictly.mono _ _ _)
      | (with_reducible exact LeO.refl _)
      | (with_reducible exact LeO.none _)
      | (with_reducible refine LeO.ite ?_ ?_)
      | (with_reducible refine LeO.bind ?_ (fun _ => ?_))
      | exact ih0 _ _ _ _ _ _
      | exact impl_labelsOf.mono _ _
      | exact impl_strictly.mono _ _ _
      | exact LeO.none _
      | refine LeO.ite ?_ ?_
      | refine LeO.bind ?_ (fun _ => ?_)
set_option maxHeartbeats 8000000 in
set_option maxRecDepth 100000 in
theorem impl_ReplaceTail.calls (k : Nat) (a0 : ByteArray) (a1 : ByteArray) (a2 : ByteArray) (r1 : ByteArray) (r2 : Int) (w : World) (h : impl_ReplaceTail.f k a0 a1 a2 = some (r1, r2)) :
    Calls Try.prog 15 #[.string a0, .string a1, .string a2] w fun e w' => e = .returned (.tuple #[.string r1, .int .i64 r2]) ∧ Below w.heap.size w w' := by
  have HB := Aside0.mk (Below.refl w.heap.size w)
  have H : ((impl_labelsOf.f k a0).bind fun bt101 => ((impl_labelsOf.f k a1).bind fun bt105 => ((impl_labelsOf.f k a2).bind fun bt109 => (if bt101.2 = true then (if bt105.2 = true then (impl_ReplaceTail.j0 k a0 a1 bt101.1 bt105.1 bt109.1 (!bt109.2)) else (impl_ReplaceTail.j0 k a0 a1 bt101.1 bt105.1 bt109.1 true)) else (impl_ReplaceTail.j0 k a0 a1 bt101.1 bt105.1 bt109.1 true))))) = some (r1, r2) := h
  clear h
  replace H := Option.bind_eq_some_iff.mp H
  obtain ⟨⟨t101, t102⟩, A40, H⟩ := H
  replace H : ((impl_labelsOf.f k a1).bind fun bt105 => ((impl_labelsOf.f k a2).bind fun bt109 => (if t102 = true then (if bt105.2 = true then (impl_ReplaceTail.j0 k a0 a1 t101 bt105.1 bt109.1 (!bt109.2)) else (impl_ReplaceTail.j0 k a0 a1 t101 bt105.1 bt109.1 true)) else (impl_ReplaceTail.j0 k a0 a1 t101 bt105.1 bt109.1 true)))) = some (r1, r2) := H
  have A4 := Aside0.mk A40
  clear A40
  replace H := Option.bind_eq_some_iff.mp H
  obtain ⟨⟨t105, t106⟩, A50, H⟩ := H
  replace H : ((impl_labelsOf.f k a2).bind fun bt109 => (if t102 = true then (if t106 = true then (impl_ReplaceTail.j0 k a0 a1 t101 t105 bt109.1 (!bt109.2)) else (impl_ReplaceTail.j0 k a0 a1 t101 t105 bt109.1 true)) else (impl_ReplaceTail.j0 k a0 a1 t101 t105 bt109.1 true))) = some (r1, r2) := H
  have A5 := Aside0.mk A50
  clear A50
  replace H := Option.bind_eq_some_iff.mp H
  obtain ⟨⟨t109, t110⟩, A60, H⟩ := H
  replace H : (if t102 = true then (if t106 = true then (impl_ReplaceTail.j0 k a0 a1 t101 t105 t109 (!t110)) else (impl_ReplaceTail.j0 k a0 a1 t101 t105 t109 true)) else (impl_ReplaceTail.j0 k a0 a1 t101 t105 t109 true)) = some (r1, r2) := H
  have A6 := Aside0.mk A60
  clear A60
  have HC7 := Aside0.mk H
  clear H
  go_enter Try.func15, Try.ntmps15
  go_upto_region 4 with (first | ((with_reducible refine gate_callee (f := 37) rfl ?_); refine goesL_ (some 17) rfl rfl Try.func37 (by kernel_rfl) rfl #[.string a0] rfl (by (try simp only [List.map_toArray, List.map_cons, List.map_nil]); first | done | rfl | (simp only [List.length_drop, List.length_take]; rfl)) ?_; (with_reducible refine (impl_labelsOf.calls k a0 t101 t102 _ A4.out).mono ?_); rintro e w8 ⟨v103, rfl, ho0, hb⟩; refine ⟨_, rfl, ?_⟩; have n0_ := Aside0.mk (Kd.R_lower ho0 (below_size (by repeat (first | (with_reducible first | exact HB.out | apply below_alloc | apply pw_below_drewN | apply below_drew1) | exact HB.out)))); have n1_ := Aside0.mk (below_step (by repeat (first | (with_reducible first | exact HB.out | apply below_alloc | apply pw_below_drewN | apply below_drew1) | exact HB.out)) hb); clear HB; have HO104 := n0_; have HB := n1_; clear n0_ n1_; (try clear hb); (try clear hb2); (try clear hk); (try clear hi); (try clear ho0)) | ((with_reducible refine gate_callee (f := 37) rfl ?_); refine goesL_ (some 22) rfl rfl Try.func37 (by kernel_rfl) rfl #[.string a1] rfl (by (try simp only [List.map_toArray, List.map_cons, List.map_nil]); first | done | rfl | (simp only [List.length_drop, List.length_take]; rfl)) ?_; (with_reducible refine (impl_labelsOf.calls k a1 t105 t106 _ A5.out).mono ?_); rintro e w9 ⟨v107, rfl, ho0, hb⟩; refine ⟨_, rfl, ?_⟩; have n0_ := Aside0.mk (Kd.R_elder' (by (with_reducible repeat (first | apply Kd.R_alloc | apply Kd.R_drewN | apply Kd.R_drew)); exact HO104.out) (Kd.R_base ho0) hb); have n1_ := Aside0.mk (Kd.R_lower (Kd.R_new' ho0 (Kd.R_lt (by (with_reducible repeat (first | apply Kd.R_alloc | apply Kd.R_drewN | apply Kd.R_drew)); exact HO104.out))) (below_size (by repeat (first | (with_reducible first | exact HB.out | apply below_alloc | apply pw_below_drewN | apply below_drew1) | exact HB.out)))); have n2_ := Aside0.mk (below_step (by repeat (first | (with_reducible first | exact HB.out | apply below_alloc | apply pw_below_drewN | apply below_drew1) | exact HB.out)) hb); clear HO104; clear HB; have HO104 := n0_; have HO108 := n1_; have HB := n2_; clear n0_ n1_ n2_; (try clear hb); (try clear hb2); (try clear hk); (try clear hi); (try clear ho0)) | ((with_reducible refine gate_callee (f := 37) rfl ?_); refine goesL_ (some 27) rfl rfl Try.func37 (by kernel_rfl) rfl #[.string a2] rfl (by (try simp only [List.map_toArray, List.map_cons, List.map_nil]); first | done | rfl | (simp only [List.length_drop, List.length_take]; rfl)) ?_; (with_reducible refine (impl_labelsOf.calls k a2 t109 t110 _ A6.out).mono ?_); rintro e w10 ⟨v111, rfl, ho0, hb⟩; refine ⟨_, rfl, ?_⟩; have n0_ := Aside0.mk (Kd.R_elder' (by (with_reducible repeat (first | apply Kd.R_alloc | apply Kd.R_drewN | apply Kd.R_drew)); exact HO104.out) (Kd.R_base ho0) hb); have n1_ := Aside0.mk (Kd.R_elder' (by (with_reducible repeat (first | apply Kd.R_alloc | apply Kd.R_drewN | apply Kd.R_drew)); exact HO108.out) (Kd.R_base ho0) hb); have n2_ := Aside0.mk (Kd.R_lower (Kd.R_new' (Kd.R_new' ho0 (Kd.R_lt (by (with_reducible repeat (first | apply Kd.R_alloc | apply Kd.R_drewN | apply Kd.R_drew)); exact HO104.out))) (Kd.R_lt (by (with_reducible repeat (first | apply Kd.R_alloc | apply Kd.R_drewN | apply Kd.R_drew)); exact HO108.out))) (below_size (by repeat (first | (with_reducible first | exact HB.out | apply below_alloc | apply pw_below_drewN | apply below_drew1) | exact HB.out)))); have n3_ := Aside0.mk (below_step (by repeat (first | (with_reducible first | exact HB.out | apply below_alloc | apply pw_below_drewN | apply below_drew1) | exact HB.out)) hb); clear HO104; clear HO108; clear HB; have HO104 := n0_; have HO108 := n1_; have HO112 := n2_; have HB := n3_; clear n0_ n1_ n2_ n3_; (try clear hb); (try clear hb2); (try clear hk); (try clear hi); (try clear ho0)))
  (try simp only [Act.put, List.setIfInBounds_toArray, List.set_cons_zero, List.set_cons_succ])
  go_cut [39] (fun v39 wc => ∃ (kq : Nat) (x39_6 : Bool), v39 = .bool x39_6 ∧ Aside0 (impl_ReplaceTail.j0 kq a0 a1 t101 t105 t109 x39_6 = some (r1, r2)) ∧ Aside0 (kq ≤ k) ∧ Aside0 (Kd.R Kd.string 9 wc w.heap.size (fun k_ => some k_ ≠ (v107 : Value).ownBlock ∧ some k_ ≠ (v111 : Value).ownBlock) v103 t101) ∧ Aside0 (Kd.R Kd.string 9 wc w.heap.size (fun k_ => some k_ ≠ (v103 : Value).ownBlock ∧ some k_ ≠ (v111 : Value).ownBlock) v107 t105) ∧ Aside0 (Kd.R Kd.string 9 wc w.heap.size (fun k_ => some k_ ≠ (v103 : Value).ownBlock ∧ some k_ ≠ (v107 : Value).ownBlock) v111 t109) ∧ Aside0 (Below w.heap.size w wc))
  case first =>
    have H := HC7.out
    clear HC7
    by_cases c11 : t102 = true
    · subst c11
      have H1 : (if t106 = true then (impl_ReplaceTail.j0 k a0 a1 t101 t105 t109 (!t110)) else (impl_ReplaceTail.j0 k a0 a1 t101 t105 t109 true)) = some (r1, r2) := by rw [if_pos rfl] at H; exact H
      clear H
      have H := H1
      clear H1
      by_cases c12 : t106 = true
      · subst c12
        have H1 : (impl_ReplaceTail.j0 k a0 a1 t101 t105 t109 (!t110)) = some (r1, r2) := by rw [if_pos rfl] at H; exact H
        clear H
        have H := H1
        clear H1
        have H' := Aside0.mk H
        clear H
        go_wp2
        go_meet
        case rel => exact ⟨_, (!t110), (by first | rfl | (simp; done) | (simp [*]; done)), H', ⟨by first | omega | exact Nat.le_refl _⟩, ⟨by (with_reducible repeat (first | apply Kd.R_alloc | apply Kd.R_drewN | apply Kd.R_drew)); exact Kd.R_mono HO104.out (fun _ hk => ⟨hk.1.2, hk.2⟩)⟩, ⟨by (with_reducible repeat (first | apply Kd.R_alloc | apply Kd.R_drewN | apply Kd.R_drew)); exact Kd.R_mono HO108.out (fun _ hk => ⟨hk.1.2, hk.2⟩)⟩, ⟨by (with_reducible repeat (first | apply Kd.R_alloc | apply Kd.R_drewN | apply Kd.R_drew)); exact Kd.R_mono HO112.out (fun _ hk => ⟨hk.1.2, hk.2⟩)⟩, ⟨by repeat (first | (with_reducible first | exact HB.out | apply below_alloc | apply pw_below_drewN | apply below_drew1) | exact HB.out)⟩⟩
      · replace c12 := Bool.eq_false_iff.mpr c12
        subst c12
        have H1 : (impl_ReplaceTail.j0 k a0 a1 t101 t105 t109 true) = some (r1, r2) := by rw [if_neg (show ¬ (false = true) by decide)] at H; exact H
        clear H
        have H := H1
        clear H1
        have H' := Aside0.mk H
        clear H
        go_wp2
        go_meet
        case rel => exact ⟨_, (true), (by first | rfl | (simp; done) | (simp [*]; done)), H', ⟨by first | omega | exact Nat.le_refl _⟩, ⟨by (with_reducible repeat (first | apply Kd.R_alloc | apply Kd.R_drewN | apply Kd.R_drew)); exact Kd.R_mono HO104.out (fun _ hk => ⟨hk.1.2, hk.2⟩)⟩, ⟨by (with_reducible repeat (first | apply Kd.R_alloc | apply Kd.R_drewN | apply Kd.R_drew)); exact Kd.R_mono HO108.out (fun _ hk => ⟨hk.1.2, hk.2⟩)⟩, ⟨by (with_reducible repeat (first | apply Kd.R_alloc | apply Kd.R_drewN | apply Kd.R_drew)); exact Kd.R_mono HO112.out (fun _ hk => ⟨hk.1.2, hk.2⟩)⟩, ⟨by repeat (first | (with_reducible first | exact HB.out | apply below_alloc | apply pw_below_drewN | apply below_drew1) | exact HB.out)⟩⟩
    · replace c11 := Bool.eq_false_iff.mpr c11
      subst c11
      have H1 : (impl_ReplaceTail.j0 k a0 a1 t101 t105 t109 true) = some (r1, r2) := by rw [if_neg (show ¬ (false = true) by decide)] at H; exact H
      clear H
      have H := H1
      clear H1
      have H' := Aside0.mk H
      clear H
      go_wp2
      go_meet
      case rel => exact ⟨_, (true), (by first | rfl | (simp; done) | (simp [*]; done)), H', ⟨by first | omega | exact Nat.le_refl _⟩, ⟨by (with_reducible repeat (first | apply Kd.R_alloc | apply Kd.R_drewN | apply Kd.R_drew)); exact Kd.R_mono HO104.out (fun _ hk => ⟨hk.1.2, hk.2⟩)⟩, ⟨by (with_reducible repeat (first | apply Kd.R_alloc | apply Kd.R_drewN | apply Kd.R_drew)); exact Kd.R_mono HO108.out (fun _ hk => ⟨hk.1.2, hk.2⟩)⟩, ⟨by (with_reducible repeat (first | apply Kd.R_alloc | apply Kd.R_drewN | apply Kd.R_drew)); exact Kd.R_mono HO112.out (fun _ hk => ⟨hk.1.2, hk.2⟩)⟩, ⟨by repeat (first | (with_reducible first | exact HB.out | apply below_alloc | apply pw_below_drewN | apply below_drew1) | exact HB.out)⟩⟩
  case rest =>
    clear HC7
    try clear c1
    try clear p2
    try clear c3
    try clear c11
    try clear c12
    obtain ⟨kq, x39_6, rfl, HA, HJ6, HO_8, HO_10, HO_12, HB⟩ := hcut
    cases kq with
    | zero => exact absurd HA.out (by simp [impl_ReplaceTail.j0])
    | succ kj6 =>
      have H := HA.out
      clear HA
      simp only [impl_ReplaceTail.j0] at H
      by_cases c13 : x39_6 = true
      · subst c13
        have H1 : (some ((⟨#[]⟩ : ByteArray), 32)) = some (r1, r2) := by rw [if_pos rfl] at H; exact H
        clear H
        have H := H1
        clear H1
        simp only [Option.some.injEq, Prod.mk.injEq] at H
        obtain ⟨rfl, rfl⟩ := H
        go_wp2
        go_ret2
        exact ⟨by first | rfl | (simp [errW_none, errW_some] <;> rfl) | (simp [*, errW_none, errW_some] <;> rfl), by repeat (first | (with_reducible first | exact HB.out | apply below_alloc | apply pw_below_drewN | apply below_drew1) | exact HB.out)⟩
      · replace c13 := Bool.eq_false_iff.mpr c13
        subst c13
        have H1 : ((impl_strictly.f kj6 a0 a1).bind fun t113 => (if t113 = true then ((some (([] : List ByteArray) : List ByteArray)).bind fun y114 => (if 0 ≤ (wrap64 ((t101.length : Int) - (t105.length : Int))) then (if (wrap64 ((t101.length : Int) - (t105.length : Int))) ≤ (t101.length : Int) then ((some (t101.take ((wrap64 ((t101.length : Int) - (t105.length : Int))) : Int).toNat : List ByteArray)).bind fun y117 => (if y114.length + y117.length < 8796093022208 then ((some (y114 ++ y117 : List ByteArray)).bind fun y121 => (if y121.length + t109.length < 8796093022208 then ((impl_joined.f (y121 ++ t109)).bind fun t127 => (if (t127.size : Int) > 255 then (some ((⟨#[]⟩ : ByteArray), 3)) else (some (t127, 0)))) else (none))) else (none))) else (none)) else (none))) else (some ((⟨#[]⟩ : ByteArray), 22)))) = some (r1, r2) := by rw [if_neg (show ¬ (false = true) by decide)] at H; exact H
        clear H
        have H := H1
        clear H1
        replace H := Option.bind_eq_some_iff.mp H
        obtain ⟨t113, A140, H⟩ := H
        replace H : (if t113 = true then ((some (([] : List ByteArray) : List ByteArray)).bind fun y114 => (if 0 ≤ (wrap64 ((t101.length : Int) - (t105.length : Int))) then (if (wrap64 ((t101.length : Int) - (t105.length : Int))) ≤ (t101.length : Int) then ((some (t101.take ((wrap64 ((t101.length : Int) - (t105.length : Int))) : Int).toNat : List ByteArray)).bind fun y117 => (if y114.length + y117.length < 8796093022208 then ((some (y114 ++ y117 : List ByteArray)).bind fun y121 => (if y121.length + t109.length < 8796093022208 then ((impl_joined.f (y121 ++ t109)).bind fun t127 => (if (t127.size : Int) > 255 then (some ((⟨#[]⟩ : ByteArray), 3)) else (some (t127, 0)))) else (none))) else (none))) else (none)) else (none))) else (some ((⟨#[]⟩ : ByteArray), 22))) = some (r1, r2) := H
        have A14 := Aside0.mk A140
        clear A140
        by_cases c15 : t113 = true
        · subst c15
          have H1 : ((some (([] : List ByteArray) : List ByteArray)).bind fun y114 => (if 0 ≤ (wrap64 ((t101.length : Int) - (t105.length : Int))) then (if (wrap64 ((t101.length : Int) - (t105.length : Int))) ≤ (t101.length : Int) then ((some (t101.take ((wrap64 ((t101.length : Int) - (t105.length : Int))) : Int).toNat : List ByteArray)).bind fun y117 => (if y114.length + y117.length < 8796093022208 then ((some (y114 ++ y117 : List ByteArray)).bind fun y121 => (if y121.length + t109.length < 8796093022208 then ((impl_joined.f (y121 ++ t109)).bind fun t127 => (if (t127.size : Int) > 255 then (some ((⟨#[]⟩ : ByteArray), 3)) else (some (t127, 0)))) else (none))) else (none))) else (none)) else (none))) = some (r1, r2) := by rw [if_pos rfl] at H; exact H
          clear H
          have H := H1
          clear H1
          obtain ⟨y114, hy114⟩ : ∃ y_ : List ByteArray, y_ = (([] : List ByteArray)) := ⟨_, rfl⟩
          replace H : (if 0 ≤ (wrap64 ((t101.length : Int) - (t105.length : Int))) then (if (wrap64 ((t101.length : Int) - (t105.length : Int))) ≤ (t101.length : Int) then ((some (t101.take ((wrap64 ((t101.length : Int) - (t105.length : Int))) : Int).toNat : List ByteArray)).bind fun y117 => (if y114.length + y117.length < 8796093022208 then ((some (y114 ++ y117 : List ByteArray)).bind fun y121 => (if y121.length + t109.length < 8796093022208 then ((impl_joined.f (y121 ++ t109)).bind fun t127 => (if (t127.size : Int) > 255 then (some ((⟨#[]⟩ : ByteArray), 3)) else (some (t127, 0)))) else (none))) else (none))) else (none)) else (none)) = some (r1, r2) := by first | (rw [hy114]; with_reducible exact H) | (have H2_ := (Option.bind_some _ _).symm.trans H; rw [hy114]; with_reducible exact H2_) | (have H2_ := (Option.bind_some _ _).symm.trans H; with_reducible exact H2_) | with_reducible exact H | (rw [hy114]; exact H) | exact H
          have Ny114 := Aside0.mk hy114
          clear hy114
          obtain ⟨ji16, hji16⟩ : ∃ j_ : Int, (wrap64 ((t101.length : Int) - (t105.length : Int))) = j_ := ⟨_, rfl⟩
          replace H : (if 0 ≤ (ji16) then (if (ji16) ≤ (t101.length : Int) then ((some (t101.take ((ji16) : Int).toNat : List ByteArray)).bind fun y117 => (if y114.length + y117.length < 8796093022208 then ((some (y114 ++ y117 : List ByteArray)).bind fun y121 => (if y121.length + t109.length < 8796093022208 then ((impl_joined.f (y121 ++ t109)).bind fun t127 => (if (t127.size : Int) > 255 then (some ((⟨#[]⟩ : ByteArray), 3)) else (some (t127, 0)))) else (none))) else (none))) else (none)) else (none)) = some (r1, r2) := by first | (rw [hji16] at H; exact H) | (simp only [hji16] at H ⊢; exact H)
          (try rw [hji16] at A14)
          have hji16w : (IntKind.i64.wrap ((t101.length : Int) - (t105.length : Int))) = ji16 := (i64_w _).trans hji16
          by_cases c17 : 0 ≤ (ji16)
          · rw [if_pos c17] at H
            have c17b0 := eq_true c17
            have c17b1 : decide (0 ≤ (ji16)) = true := decide_eq_true c17
            clear c17
            by_cases c18 : (ji16) ≤ (t101.length : Int)
            · rw [if_pos c18] at H
              have c18b0 := eq_true c18
              have c18b1 : decide ((ji16) ≤ (t101.length : Int)) = true := decide_eq_true c18
              clear c18
              obtain ⟨y117, hy117⟩ : ∃ y_ : List ByteArray, y_ = (t101.take ((ji16) : Int).toNat) := ⟨_, rfl⟩
              replace H : (if y114.length + y117.length < 8796093022208 then ((some (y114 ++ y117 : List ByteArray)).bind fun y121 => (if y121.length + t109.length < 8796093022208 then ((impl_joined.f (y121 ++ t109)).bind fun t127 => (if (t127.size : Int) > 255 then (some ((⟨#[]⟩ : ByteArray), 3)) else (some (t127, 0)))) else (none))) else (none)) = some (r1, r2) := by first | (rw [hy117]; with_reducible exact H) | (have H2_ := (Option.bind_some _ _).symm.trans H; rw [hy117]; with_reducible exact H2_) | (have H2_ := (Option.bind_some _ _).symm.trans H; with_reducible exact H2_) | with_reducible exact H | (rw [hy117]; exact H) | exact H
              have Ny117 := Aside0.mk hy117
              clear hy117
              by_cases c19 : y114.length + y117.length < 8796093022208
              · rw [if_pos c19] at H
                have LMc19 := Aside0.mk c19
                clear c19
                obtain ⟨y121, hy121⟩ : ∃ y_ : List ByteArray, y_ = (y114 ++ y117) := ⟨_, rfl⟩
                replace H : (if y121.length + t109.length < 8796093022208 then ((impl_joined.f (y121 ++ t109)).bind fun t127 => (if (t127.size : Int) > 255 then (some ((⟨#[]⟩ : ByteArray), 3)) else (some (t127, 0)))) else (none)) = some (r1, r2) := by first | (rw [hy121]; with_reducible exact H) | (have H2_ := (Option.bind_some _ _).symm.trans H; rw [hy121]; with_reducible exact H2_) | (have H2_ := (Option.bind_some _ _).symm.trans H; with_reducible exact H2_) | with_reducible exact H | (rw [hy121]; exact H) | exact H
                have Ny121 := Aside0.mk hy121
                clear hy121
                by_cases c20 : y121.length + t109.length < 8796093022208
                · rw [if_pos c20] at H
                  have LMc20 := Aside0.mk c20
                  clear c20
                  obtain ⟨y124, hy124⟩ : ∃ y_ : List ByteArray, y_ = (y121 ++ t109) := ⟨_, rfl⟩
                  replace H : ((impl_joined.f y124).bind fun t127 => (if (t127.size : Int) > 255 then (some ((⟨#[]⟩ : ByteArray), 3)) else (some (t127, 0)))) = some (r1, r2) := by first | (rw [hy124]; with_reducible exact H) | (have H2_ := (Option.bind_some _ _).symm.trans H; rw [hy124]; with_reducible exact H2_) | (have H2_ := (Option.bind_some _ _).symm.trans H; with_reducible exact H2_) | with_reducible exact H | (rw [hy124]; exact H) | exact H
                  have Ny124 := Aside0.mk hy124
                  clear hy124
                  replace H := Option.bind_eq_some_iff.mp H
                  obtain ⟨t127, A210, H⟩ := H
                  replace H : (if (t127.size : Int) > 255 then (some ((⟨#[]⟩ : ByteArray), 3)) else (some (t127, 0))) = some (r1, r2) := H
                  have A21 := Aside0.mk A210
                  clear A210
                  by_cases c22 : (t127.size : Int) > 255
                  · rw [if_pos c22] at H
                    have c22b0 : decide (255 < (t127.size : Int)) = true := decide_eq_true c22
                    have c22b1 : decide (255 < t127.size) = true := decide_eq_true (by omega)
                    clear c22
                    simp only [Option.some.injEq, Prod.mk.injEq] at H
                    obtain ⟨rfl, rfl⟩ := H
                    go_wp2_with (first | ((with_reducible refine gate_callee (f := 41) rfl ?_); refine goesL_ (some 42) rfl rfl Try.func41 (by kernel_rfl) rfl #[.string a0, .string a1] rfl (by (try simp only [List.map_toArray, List.map_cons, List.map_nil]); first | done | rfl | (simp only [List.length_drop, List.length_take]; rfl)) ?_; (with_reducible refine (impl_strictly.calls kj6 a0 a1 true _ A14.out).mono ?_); rintro e w23 ⟨rfl, hb⟩; refine ⟨_, rfl, ?_⟩; have n0_ := Aside0.mk (Kd.R_below (by (with_reducible repeat (first | apply Kd.R_alloc | apply Kd.R_drewN | apply Kd.R_drew)); exact HO_8.out) hb); have n1_ := Aside0.mk (Kd.R_below (by (with_reducible repeat (first | apply Kd.R_alloc | apply Kd.R_drewN | apply Kd.R_drew)); exact HO_10.out) hb); have n2_ := Aside0.mk (Kd.R_below (by (with_reducible repeat (first | apply Kd.R_alloc | apply Kd.R_drewN | apply Kd.R_drew)); exact HO_12.out) hb); have n3_ := Aside0.mk (below_step (by repeat (first | (with_reducible first | exact HB.out | apply below_alloc | apply pw_below_drewN | apply below_drew1) | exact HB.out)) hb); clear HO_8; clear HO_10; clear HO_12; clear HB; have HO_8 := n0_; have HO_10 := n1_; have HO_12 := n2_; have HB := n3_; clear n0_ n1_ n2_ n3_; (try clear hb); (try clear hb2); (try clear hk); (try clear hi)) | ((with_reducible refine gate_dst (N := 44) rfl ?_); refine Kd.R_lit Kd.string _ 9 ?hg (N := 44) ?hd (xs := ([] : List ByteArray)) (inner := []) (ok := fun _ => True) (okp := fun _ => True) ?hr ?hp (fun _ hk => hk) trivial (Below.refl _ _) (Nat.le_refl _) (by simp) ?_; (case hd => rfl); (case hg => rfl); (case hr => first | (go_simp; done) | (go_simp; rfl)); (case hp => exact (Reps.none _ _)); intro v115 w24 ho25 hb hg_ hnew_; clear hg_ hnew_; (first | rw [← Ny114.out] at ho25 | (simp only [Int.reduceToNat] at ho25; rw [← Ny114.out] at ho25)); have n0_ := Aside0.mk (Kd.R_elder' (by (with_reducible repeat (first | apply Kd.R_alloc | apply Kd.R_drewN | apply Kd.R_drew)); exact HO_8.out) (Kd.R_base ho25) hb); have n1_ := Aside0.mk (Kd.R_elder' (by (with_reducible repeat (first | apply Kd.R_alloc | apply Kd.R_drewN | apply Kd.R_drew)); exact HO_10.out) (Kd.R_base ho25) hb); have n2_ := Aside0.mk (Kd.R_elder' (by (with_reducible repeat (first | apply Kd.R_alloc | apply Kd.R_drewN | apply Kd.R_drew)); exact HO_12.out) (Kd.R_base ho25) hb); have n3_ := Aside0.mk (Kd.R_lower (Kd.R_new' (Kd.R_new' (Kd.R_new' ho25 (Kd.R_lt (by (with_reducible repeat (first | apply Kd.R_alloc | apply Kd.R_drewN | apply Kd.R_drew)); exact HO_8.out))) (Kd.R_lt (by (with_reducible repeat (first | apply Kd.R_alloc | apply Kd.R_drewN | apply Kd.R_drew)); exact HO_10.out))) (Kd.R_lt (by (with_reducible repeat (first | apply Kd.R_alloc | apply Kd.R_drewN | apply Kd.R_drew)); exact HO_12.out))) (below_size (by repeat (first | (with_reducible first | exact HB.out | apply below_alloc | apply pw_below_drewN | apply below_drew1) | exact HB.out)))); have n4_ := Aside0.mk (below_step (by repeat (first | (with_reducible first | exact HB.out | apply below_alloc | apply pw_below_drewN | apply below_drew1) | exact HB.out)) hb); clear HO_8; clear HO_10; clear HO_12; clear HB; have HO_8 := n0_; have HO_10 := n1_; have HO_12 := n2_; have HO116 := n3_; have HB := n4_; clear n0_ n1_ n2_ n3_ n4_; clear hb ho25; obtain ⟨Ao26, co26, eo26⟩ := Kd.R_slice HO_8.out; subst eo26; obtain ⟨Ao27, co27, eo27⟩ := Kd.R_slice HO_10.out; subst eo27; have q28 : ((ji16) : Int) ≤ ((t101.length : Int) : Int) := of_decide_eq_true (by first | (with_reducible assumption) | assumption); obtain ⟨i028, hi028, _, hsz28, _⟩ := info_parts info9; have hroom28 : t101.length ≤ co26 := (Kd.R_reads' HO_8.out).2.1; have hC28 : Kd.C Kd.string _ Ao26 t101.length t101 := (Kd.R_reads' HO_8.out).2.2; have hcut28 := cut_to (P := Try.prog) 38 9 .i64 Try.underlying38 hi028 Ao26 t101.length co26 (ji16) (of_decide_eq_true (by first | (with_reducible assumption) | assumption)) q28 hroom28; have hr28 := Kd.C_take (m := ((ji16) : Int).toNat) hC28 (by omega); have hy28 : y117.length = ((ji16) : Int).toNat := (by rw [Ny117.out, List.length_take]; omega); rw [← Ny117.out] at hr28; rw [← hy28] at hcut28; have HR120 := Aside0.mk hr28; have HC120 := Aside0.mk (show y117.length ≤ co26 from by omega); clear hr28 hC28 hroom28 hi028 hsz28; have KY28 := Aside0.mk hy28; clear hy28; have KL28 := Aside0.mk (show ((ji16) : Int).toNat ≤ t101.length from by omega); replace q28 := eq_true q28) | ((with_reducible refine gate_builtin (b := .append) (xs := #[.tmp 44, .tmp 51]) rfl ?_); at_builtin; refine Kd.R_append_rows Kd.string (w0 := w) w.heap.size rfl (.tmp 44) (.tmp 51) 38 9 (.string ⟨#[]⟩) 16 rfl Try.underlying38 info9 rfl (by decide) (by omega) v115 y114 y117 _ _ _ (fun k_ => some k_ ≠ (.slice Ao26 t101.length co26 : Value).ownBlock ∧ some k_ ≠ (.slice Ao27 t105.length co27 : Value).ownBlock ∧ some k_ ≠ (v111 : Value).ownBlock) (fun _ => False) rfl rfl ?aO ?aR (fun _ _ h => h) (fun _ h => h.elim) ?aF ?aB ?aS ?aL ?_; (case aR => repeat (first | exact (by repeat (first | (with_reducible exact HR120.out) | (with_reducible refine Kd.C_alloc ?_ _) | (with_reducible refine Kd.C_drewN ?_ _) | (with_reducible refine Kd.C_drew ?_) | exact HR120.out)) | (with_reducible refine Kd.C_alloc ?_ _) | (with_reducible refine Kd.C_drewN ?_ _) | (with_reducible refine Kd.C_drew ?_))); (case aB => exact (by repeat (first | (with_reducible first | exact HB.out | apply below_alloc | apply pw_below_drewN | apply below_drew1) | exact HB.out))); (case aF => exact (fun k_ hk => ⟨Kd.fresh' (Kd.R_lt (by (with_reducible repeat (first | apply Kd.R_alloc | apply Kd.R_drewN | apply Kd.R_drew)); exact HO_8.out)) k_ hk, Kd.fresh' (Kd.R_lt (by (with_reducible repeat (first | apply Kd.R_alloc | apply Kd.R_drewN | apply Kd.R_drew)); exact HO_10.out)) k_ hk, Kd.fresh' (Kd.R_lt (by (with_reducible repeat (first | apply Kd.R_alloc | apply Kd.R_drewN | apply Kd.R_drew)); exact HO_12.out)) k_ hk⟩)); (case aO => exact (by (with_reducible repeat (first | apply Kd.R_alloc | apply Kd.R_drewN | apply Kd.R_drew)); exact Kd.R_mono HO116.out (fun _ hk => ⟨hk.1.1.2, ⟨hk.1.2, hk.2⟩⟩))); (case aS => exact (below_size (by repeat (first | (with_reducible first | exact HB.out | apply below_alloc | apply pw_below_drewN | apply below_drew1) | exact HB.out)))); (case aL => have := LMc19.out; omega); intro v122 w29 ho hb hg hat; rw [← Ny121.out] at ho; have n0_ := Aside0.mk (Kd.R_after (ok := (fun k_ => some k_ ≠ (.slice Ao27 t105.length co27 : Value).ownBlock ∧ some k_ ≠ (v111 : Value).ownBlock)) (by (with_reducible repeat (first | apply Kd.R_alloc | apply Kd.R_drewN | apply Kd.R_drew)); exact HO_8.out) hg hat); have n1_ := Aside0.mk (Kd.R_after (ok := (fun k_ => some k_ ≠ (.slice Ao26 t101.length co26 : Value).ownBlock ∧ some k_ ≠ (v111 : Value).ownBlock)) (by (with_reducible repeat (first | apply Kd.R_alloc | apply Kd.R_drewN | apply Kd.R_drew)); exact HO_10.out) hg hat); have n2_ := Aside0.mk (Kd.R_after (ok := (fun k_ => some k_ ≠ (.slice Ao26 t101.length co26 : Value).ownBlock ∧ some k_ ≠ (.slice Ao27 t105.length co27 : Value).ownBlock)) (by (with_reducible repeat (first | apply Kd.R_alloc | apply Kd.R_drewN | apply Kd.R_drew)); exact HO_12.out) hg hat); have n3_ := Aside0.mk (hb); have n4_ := Aside0.mk ((show Kd.C Kd.string w29 Ao26 y117.length y117 from by rw [Ny117.out]; exact Kd.C_take (m := ((ji16) : Int).toNat) ((Kd.R_reads' (Kd.R_after (ok := (fun k_ => some k_ ≠ (.slice Ao27 t105.length co27 : Value).ownBlock ∧ some k_ ≠ (v111 : Value).ownBlock)) (by (with_reducible repeat (first | apply Kd.R_alloc | apply Kd.R_drewN | apply Kd.R_drew)); exact HO_8.out) hg hat)).2.2) KL28.out)); have n5_ := Aside0.mk (ho); clear HO_8; clear HO_10; clear HO_12; clear HB; clear HR120; clear HO116; have HO_8 := n0_; have HO_10 := n1_; have HO_12 := n2_; have HB := n3_; have HR120 := n4_; have HO123 := n5_; clear n0_ n1_ n2_ n3_ n4_ n5_; clear ho hb hg hat; obtain ⟨Ao31, co31, eo31⟩ := Kd.R_slice HO_12.out; subst eo31) | ((with_reducible refine gate_builtin (b := .append) (xs := #[.tmp 52, .tmp 53]) rfl ?_); at_builtin; refine Kd.R_append_rows Kd.string (w0 := w) w.heap.size rfl (.tmp 52) (.tmp 53) 38 9 (.string ⟨#[]⟩) 16 rfl Try.underlying38 info9 rfl (by decide) (by omega) v122 y121 t109 _ _ _ (fun k_ => some k_ ≠ (.slice Ao26 t101.length co26 : Value).ownBlock ∧ some k_ ≠ (.slice Ao27 t105.length co27 : Value).ownBlock ∧ some k_ ≠ (.slice Ao31 t109.length co31 : Value).ownBlock) (fun _ => False) rfl rfl ?aO ?aR (fun _ _ h => h) (fun _ h => h.elim) ?aF ?aB ?aS ?aL ?_; (case aR => repeat (first | exact (Kd.R_reads' HO_12.out).2.2 | (with_reducible refine Kd.C_alloc ?_ _) | (with_reducible refine Kd.C_drewN ?_ _) | (with_reducible refine Kd.C_drew ?_))); (case aB => exact (by repeat (first | (with_reducible first | exact HB.out | apply below_alloc | apply pw_below_drewN | apply below_drew1) | exact HB.out))); (case aF => exact (fun k_ hk => ⟨Kd.fresh' (Kd.R_lt (by (with_reducible repeat (first | apply Kd.R_alloc | apply Kd.R_drewN | apply Kd.R_drew)); exact HO_8.out)) k_ hk, Kd.fresh' (Kd.R_lt (by (with_reducible repeat (first | apply Kd.R_alloc | apply Kd.R_drewN | apply Kd.R_drew)); exact HO_10.out)) k_ hk, Kd.fresh' (Kd.R_lt (by (with_reducible repeat (first | apply Kd.R_alloc | apply Kd.R_drewN | apply Kd.R_drew)); exact HO_12.out)) k_ hk⟩)); (case aO => exact (by (with_reducible repeat (first | apply Kd.R_alloc | apply Kd.R_drewN | apply Kd.R_drew)); exact HO123.out)); (case aS => exact (below_size (by repeat (first | (with_reducible first | exact HB.out | apply below_alloc | apply pw_below_drewN | apply below_drew1) | exact HB.out)))); (case aL => have := LMc20.out; omega); intro v125 w30 ho hb hg hat; rw [← Ny124.out] at ho; have n0_ := Aside0.mk (Kd.R_after (ok := (fun k_ => some k_ ≠ (.slice Ao27 t105.length co27 : Value).ownBlock ∧ some k_ ≠ (.slice Ao31 t109.length co31 : Value).ownBlock)) (by (with_reducible repeat (first | apply Kd.R_alloc | apply Kd.R_drewN | apply Kd.R_drew)); exact HO_8.out) hg hat); have n1_ := Aside0.mk (Kd.R_after (ok := (fun k_ => some k_ ≠ (.slice Ao26 t101.length co26 : Value).ownBlock ∧ some k_ ≠ (.slice Ao31 t109.length co31 : Value).ownBlock)) (by (with_reducible repeat (first | apply Kd.R_alloc | apply Kd.R_drewN | apply Kd.R_drew)); exact HO_10.out) hg hat); have n2_ := Aside0.mk (Kd.R_after (ok := (fun k_ => some k_ ≠ (.slice Ao26 t101.length co26 : Value).ownBlock ∧ some k_ ≠ (.slice Ao27 t105.length co27 : Value).ownBlock)) (by (with_reducible repeat (first | apply Kd.R_alloc | apply Kd.R_drewN | apply Kd.R_drew)); exact HO_12.out) hg hat); have n3_ := Aside0.mk (hb); have n4_ := Aside0.mk ((show Kd.C Kd.string w30 Ao26 y117.length y117 from by rw [Ny117.out]; exact Kd.C_take (m := ((ji16) : Int).toNat) ((Kd.R_reads' (Kd.R_after (ok := (fun k_ => some k_ ≠ (.slice Ao27 t105.length co27 : Value).ownBlock ∧ some k_ ≠ (.slice Ao31 t109.length co31 : Value).ownBlock)) (by (with_reducible repeat (first | apply Kd.R_alloc | apply Kd.R_drewN | apply Kd.R_drew)); exact HO_8.out) hg hat)).2.2) KL28.out)); have n5_ := Aside0.mk (ho); clear HO_8; clear HO_10; clear HO_12; clear HB; clear HR120; clear HO123; have HO_8 := n0_; have HO_10 := n1_; have HO_12 := n2_; have HB := n3_; have HR120 := n4_; have HO126 := n5_; clear n0_ n1_ n2_ n3_ n4_ n5_; clear ho hb hg hat; obtain ⟨Ao32, co32, eo32⟩ := Kd.R_slice HO126.out; subst eo32) | ((with_reducible refine gate_callee (f := 39) rfl ?_); refine goesL_ (some 55) rfl rfl Try.func39 (by kernel_rfl) rfl #[.slice Ao32 y124.length co32] rfl (by (try simp only [List.map_toArray, List.map_cons, List.map_nil]); first | done | rfl | (simp only [List.length_drop, List.length_take]; rfl)) ?_; (with_reducible refine (impl_joined.calls _ _ y124 t127 _ ?side1 ?side2 A21.out).mono ?_); (case side1 => repeat (first | exact (Kd.R_reads' HO126.out).2.2 | (with_reducible refine Kd.C_alloc ?_ _) | (with_reducible refine Kd.C_drewN ?_ _) | (with_reducible refine Kd.C_drew ?_))); (case side2 => exact (Kd.R_reads' HO126.out).2.1); rintro e w33 ⟨rfl, hb⟩; refine ⟨_, rfl, ?_⟩; have n0_ := Aside0.mk (Kd.R_below (by (with_reducible repeat (first | apply Kd.R_alloc | apply Kd.R_drewN | apply Kd.R_drew)); exact HO_8.out) hb); have n1_ := Aside0.mk (Kd.R_below (by (with_reducible repeat (first | apply Kd.R_alloc | apply Kd.R_drewN | apply Kd.R_drew)); exact HO_10.out) hb); have n2_ := Aside0.mk (Kd.R_below (by (with_reducible repeat (first | apply Kd.R_alloc | apply Kd.R_drewN | apply Kd.R_drew)); exact HO_12.out) hb); have n3_ := Aside0.mk (Kd.R_below (by (with_reducible repeat (first | apply Kd.R_alloc | apply Kd.R_drewN | apply Kd.R_drew)); exact HO126.out) hb); have n4_ := Aside0.mk (Kd.C_below (by repeat (first | (with_reducible exact HR120.out) | (with_reducible refine Kd.C_alloc ?_ _) | (with_reducible refine Kd.C_drewN ?_ _) | (with_reducible refine Kd.C_drew ?_) | exact HR120.out)) hb); have n5_ := Aside0.mk (below_step (by repeat (first | (with_reducible first | exact HB.out | apply below_alloc | apply pw_below_drewN | apply below_drew1) | exact HB.out)) hb); clear HO_8; clear HO_10; clear HO_12; clear HO126; clear HR120; clear HB; have HO_8 := n0_; have HO_10 := n1_; have HO_12 := n2_; have HO126 := n3_; have HR120 := n4_; have HB := n5_; clear n0_ n1_ n2_ n3_ n4_ n5_; (try clear hb); (try clear hb2); (try clear hk); (try clear hi)))
                    go_ret2
                    exact ⟨by first | rfl | (simp [errW_none, errW_some] <;> rfl) | (simp only [← hji16]; first | rfl | (simp [errW_none, errW_some] <;> rfl)) | (simp [*, errW_none, errW_some] <;> rfl), by repeat (first | (with_reducible first | exact HB.out | apply below_alloc | apply pw_below_drewN | apply below_drew1) | exact HB.out)⟩
                  · rw [if_neg c22] at H
                    have c22b0 : decide (255 < (t127.size : Int)) = false := decide_eq_false c22
                    have c22b1 : decide (255 < t127.size) = false := decide_eq_false (by omega)
                    clear c22
                    simp only [Option.some.injEq, Prod.mk.injEq] at H
                    obtain ⟨rfl, rfl⟩ := H
                    go_wp2_with (first | ((with_reducible refine gate_callee (f := 41) rfl ?_); refine goesL_ (some 42) rfl rfl Try.func41 (by kernel_rfl) rfl #[.string a0, .string a1] rfl (by (try simp only [List.map_toArray, List.map_cons, List.map_nil]); first | done | rfl | (simp only [List.length_drop, List.length_take]; rfl)) ?_; (with_reducible refine (impl_strictly.calls kj6 a0 a1 true _ A14.out).mono ?_); rintro e w34 ⟨rfl, hb⟩; refine ⟨_, rfl, ?_⟩; have n0_ := Aside0.mk (Kd.R_below (by (with_reducible repeat (first | apply Kd.R_alloc | apply Kd.R_drewN | apply Kd.R_drew)); exact HO_8.out) hb); have n1_ := Aside0.mk (Kd.R_below (by (with_reducible repeat (first | apply Kd.R_alloc | apply Kd.R_drewN | apply Kd.R_drew)); exact HO_10.out) hb); have n2_ := Aside0.mk (Kd.R_below (by (with_reducible repeat (first | apply Kd.R_alloc | apply Kd.R_drewN | apply Kd.R_drew)); exact HO_12.out) hb); have n3_ := Aside0.mk (below_step (by repeat (first | (with_reducible first | exact HB.out | apply below_alloc | apply pw_below_drewN | apply below_drew1) | exact HB.out)) hb); clear HO_8; clear HO_10; clear HO_12; clear HB; have HO_8 := n0_; have HO_10 := n1_; have HO_12 := n2_; have HB := n3_; clear n0_ n1_ n2_ n3_; (try clear hb); (try clear hb2); (try clear hk); (try clear hi)) | ((with_reducible refine gate_dst (N := 44) rfl ?_); refine Kd.R_lit Kd.string _ 9 ?hg (N := 44) ?hd (xs := ([] : List ByteArray)) (inner := []) (ok := fun _ => True) (okp := fun _ => True) ?hr ?hp (fun _ hk => hk) trivial (Below.refl _ _) (Nat.le_refl _) (by simp) ?_; (case hd => rfl); (case hg => rfl); (case hr => first | (go_simp; done) | (go_simp; rfl)); (case hp => exact (Reps.none _ _)); intro v115 w35 ho36 hb hg_ hnew_; clear hg_ hnew_; (first | rw [← Ny114.out] at ho36 | (simp only [Int.reduceToNat] at ho36; rw [← Ny114.out] at ho36)); have n0_ := Aside0.mk (Kd.R_elder' (by (with_reducible repeat (first | apply Kd.R_alloc | apply Kd.R_drewN | apply Kd.R_drew)); exact HO_8.out) (Kd.R_base ho36) hb); have n1_ := Aside0.mk (Kd.R_elder' (by (with_reducible repeat (first | apply Kd.R_alloc | apply Kd.R_drewN | apply Kd.R_drew)); exact HO_10.out) (Kd.R_base ho36) hb); have n2_ := Aside0.mk (Kd.R_elder' (by (with_reducible repeat (first | apply Kd.R_alloc | apply Kd.R_drewN | apply Kd.R_drew)); exact HO_12.out) (Kd.R_base ho36) hb); have n3_ := Aside0.mk (Kd.R_lower (Kd.R_new' (Kd.R_new' (Kd.R_new' ho36 (Kd.R_lt (by (with_reducible repeat (first | apply Kd.R_alloc | apply Kd.R_drewN | apply Kd.R_drew)); exact HO_8.out))) (Kd.R_lt (by (with_reducible repeat (first | apply Kd.R_alloc | apply Kd.R_drewN | apply Kd.R_drew)); exact HO_10.out))) (Kd.R_lt (by (with_reducible repeat (first | apply Kd.R_alloc | apply Kd.R_drewN | apply Kd.R_drew)); exact HO_12.out))) (below_size (by repeat (first | (with_reducible first | exact HB.out | apply below_alloc | apply pw_below_drewN | apply below_drew1) | exact HB.out)))); have n4_ := Aside0.mk (below_step (by repeat (first | (with_reducible first | exact HB.out | apply below_alloc | apply pw_below_drewN | apply below_drew1) | exact HB.out)) hb); clear HO_8; clear HO_10; clear HO_12; clear HB; have HO_8 := n0_; have HO_10 := n1_; have HO_12 := n2_; have HO116 := n3_; have HB := n4_; clear n0_ n1_ n2_ n3_ n4_; clear hb ho36; obtain ⟨Ao37, co37, eo37⟩ := Kd.R_slice HO_8.out; subst eo37; obtain ⟨Ao38, co38, eo38⟩ := Kd.R_slice HO_10.out; subst eo38; have q39 : ((ji16) : Int) ≤ ((t101.length : Int) : Int) := of_decide_eq_true (by first | (with_reducible assumption) | assumption); obtain ⟨i039, hi039, _, hsz39, _⟩ := info_parts info9; have hroom39 : t101.length ≤ co37 := (Kd.R_reads' HO_8.out).2.1; have hC39 : Kd.C Kd.string _ Ao37 t101.length t101 := (Kd.R_reads' HO_8.out).2.2; have hcut39 := cut_to (P := Try.prog) 38 9 .i64 Try.underlying38 hi039 Ao37 t101.length co37 (ji16) (of_decide_eq_true (by first | (with_reducible assumption) | assumption)) q39 hroom39; have hr39 := Kd.C_take (m := ((ji16) : Int).toNat) hC39 (by omega); have hy39 : y117.length = ((ji16) : Int).toNat := (by rw [Ny117.out, List.length_take]; omega); rw [← Ny117.out] at hr39; rw [← hy39] at hcut39; have HR120 := Aside0.mk hr39; have HC120 := Aside0.mk (show y117.length ≤ co37 from by omega); clear hr39 hC39 hroom39 hi039 hsz39; have KY39 := Aside0.mk hy39; clear hy39; have KL39 := Aside0.mk (show ((ji16) : Int).toNat ≤ t101.length from by omega); replace q39 := eq_true q39) | ((with_reducible refine gate_builtin (b := .append) (xs := #[.tmp 44, .tmp 51]) rfl ?_); at_builtin; refine Kd.R_append_rows Kd.string (w0 := w) w.heap.size rfl (.tmp 44) (.tmp 51) 38 9 (.string ⟨#[]⟩) 16 rfl Try.underlying38 info9 rfl (by decide) (by omega) v115 y114 y117 _ _ _ (fun k_ => some k_ ≠ (.slice Ao37 t101.length co37 : Value).ownBlock ∧ some k_ ≠ (.slice Ao38 t105.length co38 : Value).ownBlock ∧ some k_ ≠ (v111 : Value).ownBlock) (fun _ => False) rfl rfl ?aO ?aR (fun _ _ h => h) (fun _ h => h.elim) ?aF ?aB ?aS ?aL ?_; (case aR => repeat (first | exact (by repeat (first | (with_reducible exact HR120.out) | (with_reducible refine Kd.C_alloc ?_ _) | (with_reducible refine Kd.C_drewN ?_ _) | (with_reducible refine Kd.C_drew ?_) | exact HR120.out)) | (with_reducible refine Kd.C_alloc ?_ _) | (with_reducible refine Kd.C_drewN ?_ _) | (with_reducible refine Kd.C_drew ?_))); (case aB => exact (by repeat (first | (with_reducible first | exact HB.out | apply below_alloc | apply pw_below_drewN | apply below_drew1) | exact HB.out))); (case aF => exact (fun k_ hk => ⟨Kd.fresh' (Kd.R_lt (by (with_reducible repeat (first | apply Kd.R_alloc | apply Kd.R_drewN | apply Kd.R_drew)); exact HO_8.out)) k_ hk, Kd.fresh' (Kd.R_lt (by (with_reducible repeat (first | apply Kd.R_alloc | apply Kd.R_drewN | apply Kd.R_drew)); exact HO_10.out)) k_ hk, Kd.fresh' (Kd.R_lt (by (with_reducible repeat (first | apply Kd.R_alloc | apply Kd.R_drewN | apply Kd.R_drew)); exact HO_12.out)) k_ hk⟩)); (case aO => exact (by (with_reducible repeat (first | apply Kd.R_alloc | apply Kd.R_drewN | apply Kd.R_drew)); exact Kd.R_mono HO116.out (fun _ hk => ⟨hk.1.1.2, ⟨hk.1.2, hk.2⟩⟩))); (case aS => exact (below_size (by repeat (first | (with_reducible first | exact HB.out | apply below_alloc | apply pw_below_drewN | apply below_drew1) | exact HB.out)))); (case aL => have := LMc19.out; omega); intro v122 w40 ho hb hg hat; rw [← Ny121.out] at ho; have n0_ := Aside0.mk (Kd.R_after (ok := (fun k_ => some k_ ≠ (.slice Ao38 t105.length co38 : Value).ownBlock ∧ some k_ ≠ (v111 : Value).ownBlock)) (by (with_reducible repeat (first | apply Kd.R_alloc | apply Kd.R_drewN | apply Kd.R_drew)); exact HO_8.out) hg hat); have n1_ := Aside0.mk (Kd.R_after (ok := (fun k_ => some k_ ≠ (.slice Ao37 t101.length co37 : Value).ownBlock ∧ some k_ ≠ (v111 : Value).ownBlock)) (by (with_reducible repeat (first | apply Kd.R_alloc | apply Kd.R_drewN | apply Kd.R_drew)); exact HO_10.out) hg hat); have n2_ := Aside0.mk (Kd.R_after (ok := (fun k_ => some k_ ≠ (.slice Ao37 t101.length co37 : Value).ownBlock ∧ some k_ ≠ (.slice Ao38 t105.length co38 : Value).ownBlock)) (by (with_reducible repeat (first | apply Kd.R_alloc | apply Kd.R_drewN | apply Kd.R_drew)); exact HO_12.out) hg hat); have n3_ := Aside0.mk (hb); have n4_ := Aside0.mk ((show Kd.C Kd.string w40 Ao37 y117.length y117 from by rw [Ny117.out]; exact Kd.C_take (m := ((ji16) : Int).toNat) ((Kd.R_reads' (Kd.R_after (ok := (fun k_ => some k_ ≠ (.slice Ao38 t105.length co38 : Value).ownBlock ∧ some k_ ≠ (v111 : Value).ownBlock)) (by (with_reducible repeat (first | apply Kd.R_alloc | apply Kd.R_drewN | apply Kd.R_drew)); exact HO_8.out) hg hat)).2.2) KL39.out)); have n5_ := Aside0.mk (ho); clear HO_8; clear HO_10; clear HO_12; clear HB; clear HR120; clear HO116; have HO_8 := n0_; have HO_10 := n1_; have HO_12 := n2_; have HB := n3_; have HR120 := n4_; have HO123 := n5_; clear n0_ n1_ n2_ n3_ n4_ n5_; clear ho hb hg hat; obtain ⟨Ao42, co42, eo42⟩ := Kd.R_slice HO_12.out; subst eo42) | ((with_reducible refine gate_builtin (b := .append) (xs := #[.tmp 52, .tmp 53]) rfl ?_); at_builtin; refine Kd.R_append_rows Kd.string (w0 := w) w.heap.size rfl (.tmp 52) (.tmp 53) 38 9 (.string ⟨#[]⟩) 16 rfl Try.underlying38 info9 rfl (by decide) (by omega) v122 y121 t109 _ _ _ (fun k_ => some k_ ≠ (.slice Ao37 t101.length co37 : Value).ownBlock ∧ some k_ ≠ (.slice Ao38 t105.length co38 : Value).ownBlock ∧ some k_ ≠ (.slice Ao42 t109.length co42 : Value).ownBlock) (fun _ => False) rfl rfl ?aO ?aR (fun _ _ h => h) (fun _ h => h.elim) ?aF ?aB ?aS ?aL ?_; (case aR => repeat (first | exact (Kd.R_reads' HO_12.out).2.2 | (with_reducible refine Kd.C_alloc ?_ _) | (with_reducible refine Kd.C_drewN ?_ _) | (with_reducible refine Kd.C_drew ?_))); (case aB => exact (by repeat (first | (with_reducible first | exact HB.out | apply below_alloc | apply pw_below_drewN | apply below_drew1) | exact HB.out))); (case aF => exact (fun k_ hk => ⟨Kd.fresh' (Kd.R_lt (by (with_reducible repeat (first | apply Kd.R_alloc | apply Kd.R_drewN | apply Kd.R_drew)); exact HO_8.out)) k_ hk, Kd.fresh' (Kd.R_lt (by (with_reducible repeat (first | apply Kd.R_alloc | apply Kd.R_drewN | apply Kd.R_drew)); exact HO_10.out)) k_ hk, Kd.fresh' (Kd.R_lt (by (with_reducible repeat (first | apply Kd.R_alloc | apply Kd.R_drewN | apply Kd.R_drew)); exact HO_12.out)) k_ hk⟩)); (case aO => exact (by (with_reducible repeat (first | apply Kd.R_alloc | apply Kd.R_drewN | apply Kd.R_drew)); exact HO123.out)); (case aS => exact (below_size (by repeat (first | (with_reducible first | exact HB.out | apply below_alloc | apply pw_below_drewN | apply below_drew1) | exact HB.out)))); (case aL => have := LMc20.out; omega); intro v125 w41 ho hb hg hat; rw [← Ny124.out] at ho; have n0_ := Aside0.mk (Kd.R_after (ok := (fun k_ => some k_ ≠ (.slice Ao38 t105.length co38 : Value).ownBlock ∧ some k_ ≠ (.slice Ao42 t109.length co42 : Value).ownBlock)) (by (with_reducible repeat (first | apply Kd.R_alloc | apply Kd.R_drewN | apply Kd.R_drew)); exact HO_8.out) hg hat); have n1_ := Aside0.mk (Kd.R_after (ok := (fun k_ => some k_ ≠ (.slice Ao37 t101.length co37 : Value).ownBlock ∧ some k_ ≠ (.slice Ao42 t109.length co42 : Value).ownBlock)) (by (with_reducible repeat (first | apply Kd.R_alloc | apply Kd.R_drewN | apply Kd.R_drew)); exact HO_10.out) hg hat); have n2_ := Aside0.mk (Kd.R_after (ok := (fun k_ => some k_ ≠ (.slice Ao37 t101.length co37 : Value).ownBlock ∧ some k_ ≠ (.slice Ao38 t105.length co38 : Value).ownBlock)) (by (with_reducible repeat (first | apply Kd.R_alloc | apply Kd.R_drewN | apply Kd.R_drew)); exact HO_12.out) hg hat); have n3_ := Aside0.mk (hb); have n4_ := Aside0.mk ((show Kd.C Kd.string w41 Ao37 y117.length y117 from by rw [Ny117.out]; exact Kd.C_take (m := ((ji16) : Int).toNat) ((Kd.R_reads' (Kd.R_after (ok := (fun k_ => some k_ ≠ (.slice Ao38 t105.length co38 : Value).ownBlock ∧ some k_ ≠ (.slice Ao42 t109.length co42 : Value).ownBlock)) (by (with_reducible repeat (first | apply Kd.R_alloc | apply Kd.R_drewN | apply Kd.R_drew)); exact HO_8.out) hg hat)).2.2) KL39.out)); have n5_ := Aside0.mk (ho); clear HO_8; clear HO_10; clear HO_12; clear HB; clear HR120; clear HO123; have HO_8 := n0_; have HO_10 := n1_; have HO_12 := n2_; have HB := n3_; have HR120 := n4_; have HO126 := n5_; clear n0_ n1_ n2_ n3_ n4_ n5_; clear ho hb hg hat; obtain ⟨Ao43, co43, eo43⟩ := Kd.R_slice HO126.out; subst eo43) | ((with_reducible refine gate_callee (f := 39) rfl ?_); refine goesL_ (some 55) rfl rfl Try.func39 (by kernel_rfl) rfl #[.slice Ao43 y124.length co43] rfl (by (try simp only [List.map_toArray, List.map_cons, List.map_nil]); first | done | rfl | (simp only [List.length_drop, List.length_take]; rfl)) ?_; (with_reducible refine (impl_joined.calls _ _ y124 t127 _ ?side1 ?side2 A21.out).mono ?_); (case side1 => repeat (first | exact (Kd.R_reads' HO126.out).2.2 | (with_reducible refine Kd.C_alloc ?_ _) | (with_reducible refine Kd.C_drewN ?_ _) | (with_reducible refine Kd.C_drew ?_))); (case side2 => exact (Kd.R_reads' HO126.out).2.1); rintro e w44 ⟨rfl, hb⟩; refine ⟨_, rfl, ?_⟩; have n0_ := Aside0.mk (Kd.R_below (by (with_reducible repeat (first | apply Kd.R_alloc | apply Kd.R_drewN | apply Kd.R_drew)); exact HO_8.out) hb); have n1_ := Aside0.mk (Kd.R_below (by (with_reducible repeat (first | apply Kd.R_alloc | apply Kd.R_drewN | apply Kd.R_drew)); exact HO_10.out) hb); have n2_ := Aside0.mk (Kd.R_below (by (with_reducible repeat (first | apply Kd.R_alloc | apply Kd.R_drewN | apply Kd.R_drew)); exact HO_12.out) hb); have n3_ := Aside0.mk (Kd.R_below (by (with_reducible repeat (first | apply Kd.R_alloc | apply Kd.R_drewN | apply Kd.R_drew)); exact HO126.out) hb); have n4_ := Aside0.mk (Kd.C_below (by repeat (first | (with_reducible exact HR120.out) | (with_reducible refine Kd.C_alloc ?_ _) | (with_reducible refine Kd.C_drewN ?_ _) | (with_reducible refine Kd.C_drew ?_) | exact HR120.out)) hb); have n5_ := Aside0.mk (below_step (by repeat (first | (with_reducible first | exact HB.out | apply below_alloc | apply pw_below_drewN | apply below_drew1) | exact HB.out)) hb); clear HO_8; clear HO_10; clear HO_12; clear HO126; clear HR120; clear HB; have HO_8 := n0_; have HO_10 := n1_; have HO_12 := n2_; have HO126 := n3_; have HR120 := n4_; have HB := n5_; clear n0_ n1_ n2_ n3_ n4_ n5_; (try clear hb); (try clear hb2); (try clear hk); (try clear hi)))
                    go_ret2
                    exact ⟨by first | rfl | (simp [errW_none, errW_some] <;> rfl) | (simp only [← hji16]; first | rfl | (simp [errW_none, errW_some] <;> rfl)) | (simp [*, errW_none, errW_some] <;> rfl), by repeat (first | (with_reducible first | exact HB.out | apply below_alloc | apply pw_below_drewN | apply below_drew1) | exact HB.out)⟩
                · rw [if_neg c20] at H
                  exact absurd H (by simp)
              · rw [if_neg c19] at H
                exact absurd H (by simp)
            · rw [if_neg c18] at H
              exact absurd H (by simp)
          · rw [if_neg c17] at H
            exact absurd H (by simp)
        · replace c15 := Bool.eq_false_iff.mpr c15
          subst c15
          have H1 : (some ((⟨#[]⟩ : ByteArray), 22)) = some (r1, r2) := by rw [if_neg (show ¬ (false = true) by decide)] at H; exact H
          clear H
          have H := H1
          clear H1
          simp only [Option.some.injEq, Prod.mk.injEq] at H
          obtain ⟨rfl, rfl⟩ := H
          go_wp2_with (first | ((with_reducible refine gate_callee (f := 41) rfl ?_); refine goesL_ (some 42) rfl rfl Try.func41 (by kernel_rfl) rfl #[.string a0, .string a1] rfl (by (try simp only [List.map_toArray, List.map_cons, List.map_nil]); first | done | rfl | (simp only [List.length_drop, List.length_take]; rfl)) ?_; (with_reducible refine (impl_strictly.calls kj6 a0 a1 false _ A14.out).mono ?_); rintro e w45 ⟨rfl, hb⟩; refine ⟨_, rfl, ?_⟩; have n0_ := Aside0.mk (Kd.R_below (by (with_reducible repeat (first | apply Kd.R_alloc | apply Kd.R_drewN | apply Kd.R_drew)); exact HO_8.out) hb); have n1_ := Aside0.mk (Kd.R_below (by (with_reducible repeat (first | apply Kd.R_alloc | apply Kd.R_drewN | apply Kd.R_drew)); exact HO_10.out) hb); have n2_ := Aside0.mk (Kd.R_below (by (with_reducible repeat (first | apply Kd.R_alloc | apply Kd.R_drewN | apply Kd.R_drew)); exact HO_12.out) hb); have n3_ := Aside0.mk (below_step (by repeat (first | (with_reducible first | exact HB.out | apply below_alloc | apply pw_below_drewN | apply below_drew1) | exact HB.out)) hb); clear HO_8; clear HO_10; clear HO_12; clear HB; have HO_8 := n0_; have HO_10 := n1_; have HO_12 := n2_; have HB := n3_; clear n0_ n1_ n2_ n3_; (try clear hb); (try clear hb2); (try clear hk); (try clear hi)))
          go_ret2
          exact ⟨by first | rfl | (simp [errW_none, errW_some] <;> rfl) | (simp [*, errW_none, errW_some] <;> rfl), by repeat (first | (with_reducible first | exact HB.out | apply below_alloc | apply pw_below_drewN | apply below_drew1) | exact HB.out)⟩

end Go.Proofs.Ytpbmnokmpihnjaa.F
namespace Go.Proofs.Ytpbmnokmpihnjaa.F
open Go Go.Shelf Go.RowKit Go.Proofs.YtpbmnokmpihnjaaW.PrintWords Go.Proofs.YtpbmnokmpihnjaaW.PrintLast Go.Proofs.YtpbmnokmpihnjaaW.PrintMore
attribute [local go_sem] max2_int min2_int max_two min_two max_three min_three max_four min_four   -- for this text's walks alone
set_option linter.unusedVariables false
set_option linter.unusedSimpArgs false

/-! ### laws_FnExactReplaceTail: function 5 -/
def laws_FnExactReplaceTail.f (k : Nat) (a0 : ByteArray) (a1 : ByteArray) (a2 : ByteArray) : Option (Bool) := if (a0.size : Int) > 1048576 then (some true) else (if (a1.size : Int) > 1048576 then (some true) else (if (a2.size : Int) > 1048576 then (some true) else ((spec_ReplaceTail.f k a0 a1 a2).bind fun bt101 => ((impl_ReplaceTail.f k a0 a1 a2).bind fun bt103 => (if bt103.1.toList = bt101.1.toList then (if bt103.2 = bt101.2 then (some true) else (some false)) else (some false))))))
theorem laws_FnExactReplaceTail.mono : ∀ a0 a1 a2 k, LeO (laws_FnExactReplaceTail.f k a0 a1 a2) (laws_FnExactReplaceTail.f (k + 1) a0 a1 a2) := by
  intro a0 a1 a2 k
  unfold laws_FnExactReplaceTail.f
  repeat' first
      | (with_reducible exact impl_ReplaceTail.mono _ _ _ _)
      | (with_reducible exact spec_ReplaceTail.mono _ _ _ _)
      | (with_reducible exact LeO.refl _)
      | (with_reducible exact LeO.none _)
      | (with_reducible refine LeO.ite ?_ ?_)
      | (with_reducible refine LeO.bind ?_ (fun _ => ?_))
      | exact impl_ReplaceTail.mono _ _ _ _
      | exact spec_ReplaceTail.mono _ _ _ _
      | exact LeO.none _
      | refine LeO.ite ?_ ?_
      | refine LeO.bind ?_ (fun _ => ?_)
set_option maxHeartbeats 8000000 in
set_option maxRecDepth 100000 in
theorem laws_FnExactReplaceTail.calls (k : Nat) (a0 : ByteArray) (a1 : ByteArray) (a2 : ByteArray) (r : Bool) (w : World) (h : laws_FnExactReplaceTail.f k a0 a1 a2 = some r) :
    Calls Try.prog 5 #[.string a0, .string a1, .string a2] w fun e w' => e = .returned (.bool r) ∧ Below w.heap.size w w' := by
  have HB := Aside0.mk (Below.refl w.heap.size w)
  have H : (if (a0.size : Int) > 1048576 then (some true) else (if (a1.size : Int) > 1048576 then (some true) else (if (a2.size : Int) > 1048576 then (some true) else ((spec_ReplaceTail.f k a0 a1 a2).bind fun bt101 => ((impl_ReplaceTail.f k a0 a1 a2).bind fun bt103 => (if bt103.1.toList = bt101.1.toList then (if bt103.2 = bt101.2 then (some true) else (some false)) else (some false))))))) = some r := h
  clear h
  by_cases c4 : (a0.size : Int) > 1048576
  · rw [if_pos c4] at H
    have c4b0 : decide (1048576 < (a0.size : Int)) = true := decide_eq_true c4
    have c4b1 : decide (1048576 < a0.size) = true := decide_eq_true (by omega)
    clear c4
    obtain rfl := Option.some.inj H
    go_enter Try.func5, Try.ntmps5
    go_wp2
    go_ret
    exact ⟨by first | rfl | (simp [errW_none, errW_some] <;> rfl) | (simp [*, errW_none, errW_some] <;> rfl), by repeat (first | (with_reducible first | exact HB.out | apply below_alloc | apply pw_below_drewN | apply below_drew1) | exact HB.out)⟩
  · rw [if_neg c4] at H
    have c4b0 : decide (1048576 < (a0.size : Int)) = false := decide_eq_false c4
    have c4b1 : decide (1048576 < a0.size) = false := decide_eq_false (by omega)
    clear c4
    by_cases c5 : (a1.size : Int) > 1048576
    · rw [if_pos c5] at H
      have c5b0 : decide (1048576 < (a1.size : Int)) = true := decide_eq_true c5
      have c5b1 : decide (1048576 < a1.size) = true := decide_eq_true (by omega)
      clear c5
      obtain rfl := Option.some.inj H
      go_enter Try.func5, Try.ntmps5
      go_wp2
      go_ret
      exact ⟨by first | rfl | (simp [errW_none, errW_some] <;> rfl) | (simp [*, errW_none, errW_some] <;> rfl), by repeat (first | (with_reducible first | exact HB.out | apply below_alloc | apply pw_below_drewN | apply below_drew1) | exact HB.out)⟩
    · rw [if_neg c5] at H
      have c5b0 : decide (1048576 < (a1.size : Int)) = false := decide_eq_false c5
      have c5b1 : decide (1048576 < a1.size) = false := decide_eq_false (by omega)
      clear c5
      by_cases c6 : (a2.size : Int) > 1048576
      · rw [if_pos c6] at H
        have c6b0 : decide (1048576 < (a2.size : Int)) = true := decide_eq_true c6
        have c6b1 : decide (1048576 < a2.size) = true := decide_eq_true (by omega)
        clear c6
        obtain rfl := Option.some.inj H
        go_enter Try.func5, Try.ntmps5
        go_wp2
        go_ret
        exact ⟨by first | rfl | (simp [errW_none, errW_some] <;> rfl) | (simp [*, errW_none, errW_some] <;> rfl), by repeat (first | (with_reducible first | exact HB.out | apply below_alloc | apply pw_below_drewN | apply below_drew1) | exact HB.out)⟩
      · rw [if_neg c6] at H
        have c6b0 : decide (1048576 < (a2.size : Int)) = false := decide_eq_false c6
        have c6b1 : decide (1048576 < a2.size) = false := decide_eq_false (by omega)
        clear c6
        replace H := Option.bind_eq_some_iff.mp H
        obtain ⟨⟨t101, t102⟩, A70, H⟩ := H
        replace H : ((impl_ReplaceTail.f k a0 a1 a2).bind fun bt103 => (if bt103.1.toList = t101.toList then (if bt103.2 = t102 then (some true) else (some false)) else (some false))) = some r := H
        have A7 := Aside0.mk A70
        clear A70
        replace H := Option.bind_eq_some_iff.mp H
        obtain ⟨⟨t103, t104⟩, A80, H⟩ := H
        replace H : (if t103.toList = t101.toList then (if t104 = t102 then (some true) else (some false)) else (some false)) = some r := H
        have A8 := Aside0.mk A80
        clear A80
        by_cases c9 : t103.toList = t101.toList
        · rw [if_pos c9] at H
          have c9b0 : (t103.toList == t101.toList) = true := beq_iff_eq.mpr c9
          have c9b1 : (t103.toList != t101.toList) = false := bne_eq_false_iff_eq.mpr c9
          clear c9
          by_cases c10 : t104 = t102
          · rw [if_pos c10] at H
            have c10b0 : (t104 == t102) = true := beq_iff_eq.mpr c10
            have c10b1 : (t104 != t102) = false := bne_eq_false_iff_eq.mpr c10
            clear c10
            obtain rfl := Option.some.inj H
            go_enter Try.func5, Try.ntmps5
            go_wp2_with (first | ((with_reducible refine gate_callee (f := 14) rfl ?_); refine goesL_ (some 24) rfl rfl Try.func14 (by kernel_rfl) rfl #[.string a0, .string a1, .string a2] rfl (by (try simp only [List.map_toArray, List.map_cons, List.map_nil]); first | done | rfl | (simp only [List.length_drop, List.length_take]; rfl)) ?_; (with_reducible refine (spec_ReplaceTail.calls k a0 a1 a2 t101 t102 _ A7.out).mono ?_); rintro e w11 ⟨rfl, hb⟩; refine ⟨_, rfl, ?_⟩; have n0_ := Aside0.mk (below_step (by repeat (first | (with_reducible first | exact HB.out | apply below_alloc | apply pw_below_drewN | apply below_drew1) | exact HB.out)) hb); clear HB; have HB := n0_; clear n0_; (try clear hb); (try clear hb2); (try clear hk); (try clear hi)) | ((with_reducible refine gate_callee (f := 15) rfl ?_); refine goesL_ (some 31) rfl rfl Try.func15 (by kernel_rfl) rfl #[.string a0, .string a1, .string a2] rfl (by (try simp only [List.map_toArray, List.map_cons, List.map_nil]); first | done | rfl | (simp only [List.length_drop, List.length_take]; rfl)) ?_; (with_reducible refine (impl_ReplaceTail.calls k a0 a1 a2 t103 t104 _ A8.out).mono ?_); rintro e w12 ⟨rfl, hb⟩; refine ⟨_, rfl, ?_⟩; have n0_ := Aside0.mk (below_step (by repeat (first | (with_reducible first | exact HB.out | apply below_alloc | apply pw_below_drewN | apply below_drew1) | exact HB.out)) hb); clear HB; have HB := n0_; clear n0_; (try clear hb); (try clear hb2); (try clear hk); (try clear hi)))
            go_ret
            exact ⟨by first | rfl | (simp [errW_none, errW_some] <;> rfl) | (simp [*, errW_none, errW_some] <;> rfl), by repeat (first | (with_reducible first | exact HB.out | apply below_alloc | apply pw_below_drewN | apply below_drew1) | exact HB.out)⟩
          · rw [if_neg c10] at H
            have c10b0 : (t104 == t102) = false := beq_eq_false_iff_ne.mpr c10
            have c10b1 : (t104 != t102) = true := bne_iff_ne.mpr c10
            obtain rfl := Option.some.inj H
            go_enter Try.func5, Try.ntmps5
            go_wp2_with (first | ((with_reducible refine gate_callee (f := 14) rfl ?_); refine goesL_ (some 24) rfl rfl Try.func14 (by kernel_rfl) rfl #[.string a0, .string a1, .string a2] rfl (by (try simp only [List.map_toArray, List.map_cons, List.map_nil]); first | done | rfl | (simp only [List.length_drop, List.length_take]; rfl)) ?_; (with_reducible refine (spec_ReplaceTail.calls k a0 a1 a2 t101 t102 _ A7.out).mono ?_); rintro e w13 ⟨rfl, hb⟩; refine ⟨_, rfl, ?_⟩; have n0_ := Aside0.mk (below_step (by repeat (first | (with_reducible first | exact HB.out | apply below_alloc | apply pw_below_drewN | apply below_drew1) | exact HB.out)) hb); clear HB; have HB := n0_; clear n0_; (try clear hb); (try clear hb2); (try clear hk); (try clear hi)) | ((with_reducible refine gate_callee (f := 15) rfl ?_); refine goesL_ (some 31) rfl rfl Try.func15 (by kernel_rfl) rfl #[.string a0, .string a1, .string a2] rfl (by (try simp only [List.map_toArray, List.map_cons, List.map_nil]); first | done | rfl | (simp only [List.length_drop, List.length_take]; rfl)) ?_; (with_reducible refine (impl_ReplaceTail.calls k a0 a1 a2 t103 t104 _ A8.out).mono ?_); rintro e w14 ⟨rfl, hb⟩; refine ⟨_, rfl, ?_⟩; have n0_ := Aside0.mk (below_step (by repeat (first | (with_reducible first | exact HB.out | apply below_alloc | apply pw_below_drewN | apply below_drew1) | exact HB.out)) hb); clear HB; have HB := n0_; clear n0_; (try clear hb); (try clear hb2); (try clear hk); (try clear hi)))
            go_ret
            exact ⟨by first | rfl | (simp [errW_none, errW_some] <;> rfl) | (simp [*, errW_none, errW_some] <;> rfl), by repeat (first | (with_reducible first | exact HB.out | apply below_alloc | apply pw_below_drewN | apply below_drew1) | exact HB.out)⟩
        · rw [if_neg c9] at H
          have c9b0 : (t103.toList == t101.toList) = false := beq_eq_false_iff_ne.mpr c9
          have c9b1 : (t103.toList != t101.toList) = true := bne_iff_ne.mpr c9
          obtain rfl := Option.some.inj H
          go_enter Try.func5, Try.ntmps5
          go_wp2_with (first | ((with_reducible refine gate_callee (f := 14) rfl ?_); refine goesL_ (some 24) rfl rfl Try.func14 (by kernel_rfl) rfl #[.string a0, .string a1, .string a2] rfl (by (try simp only [List.map_toArray, List.map_cons, List.map_nil]); first | done | rfl | (simp only [List.length_drop, List.length_take]; rfl)) ?_; (with_reducible refine (spec_ReplaceTail.calls k a0 a1 a2 t101 t102 _ A7.out).mono ?_); rintro e w15 ⟨rfl, hb⟩; refine ⟨_, rfl, ?_⟩; have n0_ := Aside0.mk (below_step (by repeat (first | (with_reducible first | exact HB.out | apply below_alloc | apply pw_below_drewN | apply below_drew1) | exact HB.out)) hb); clear HB; have HB := n0_; clear n0_; (try clear hb); (try clear hb2); (try clear hk); (try clear hi)) | ((with_reducible refine gate_callee (f := 15) rfl ?_); refine goesL_ (some 31) rfl rfl Try.func15 (by kernel_rfl) rfl #[.string a0, .string a1, .string a2] rfl (by (try simp only [List.map_toArray, List.map_cons, List.map_nil]); first | done | rfl | (simp only [List.length_drop, List.length_take]; rfl)) ?_; (with_reducible refine (impl_ReplaceTail.calls k a0 a1 a2 t103 t104 _ A8.out).mono ?_); rintro e w16 ⟨rfl, hb⟩; refine ⟨_, rfl, ?_⟩; have n0_ := Aside0.mk (below_step (by repeat (first | (with_reducible first | exact HB.out | apply below_alloc | apply pw_below_drewN | apply below_drew1) | exact HB.out)) hb); clear HB; have HB := n0_; clear n0_; (try clear hb); (try clear hb2); (try clear hk); (try clear hi)))
          go_ret
          exact ⟨by first | rfl | (simp [errW_none, errW_some] <;> rfl) | (simp [*, errW_none, errW_some] <;> rfl), by repeat (first | (with_reducible first | exact HB.out | apply below_alloc | apply pw_below_drewN | apply below_drew1) | exact HB.out)⟩

/-- THE ONE PURE STATEMENT of laws_FnExactReplaceTail: yours. -/
def laws_FnExactReplaceTail.Pure : Prop := ∀ (a0 : ByteArray) (a1 : ByteArray) (a2 : ByteArray), a0.size ≤ 140737488351232 → a1.size ≤ 140737488351232 → a2.size ≤ 140737488351232 → ∃ k, laws_FnExactReplaceTail.f k a0 a1 a2 = some true
theorem laws_FnExactReplaceTail.walk (P : laws_FnExactReplaceTail.Pure) (a0 : ByteArray) (a1 : ByteArray) (a2 : ByteArray) (w : World) (w0 : a0.size ≤ 140737488351232) (w1 : a1.size ≤ 140737488351232) (w2 : a2.size ≤ 140737488351232) :
    Calls Try.prog 5 #[.string a0, .string a1, .string a2] w fun e w' => e = .returned (.bool true) ∧ Below w.heap.size w w' := by
  obtain ⟨k, h⟩ := P a0 a1 a2 w0 w1 w2
  refine (laws_FnExactReplaceTail.calls k a0 a1 a2 true w h).mono ?_
  rintro e w' ⟨rfl, hd⟩
  exact ⟨rfl, hd⟩

end Go.Proofs.Ytpbmnokmpihnjaa.F
namespace Go.Proofs.Ytpbmnokmpihnjaa.Base
open Go.RowKit Go.Proofs.YtpbmnokmpihnjaaW.PrintWords Go.Proofs.YtpbmnokmpihnjaaW.PrintMore

theorem w64 {x : Int} (h0 : -9223372036854775808 ≤ x) (h1 : x ≤ 9223372036854775807) : wrap64 x = x := by
  unfold wrap64
  omega

def L (s : ByteArray) : List UInt8 := s.data.toList
def B (l : List UInt8) : ByteArray := ⟨l.toArray⟩
theorem L_B (l : List UInt8) : L (B l) = l := by simp [L, B]
theorem B_L (s : ByteArray) : B (L s) = s := by simp [L, B]
theorem L_inj {a b : ByteArray} (h : L a = L b) : a = b := by rw [← B_L a, ← B_L b, h]
theorem L_iff {a b : ByteArray} : L a = L b ↔ a = b := ⟨L_inj, fun h => by rw [h]⟩
theorem size_L (s : ByteArray) : s.size = (L s).length := by simp [L]
theorem toL (s : ByteArray) : s.toList = L s := Lib.toList_data s
theorem L_extract (s : ByteArray) (i j : Nat) : L (s.extract i j) = ((L s).drop i).take (j - i) := by
  simp [L, ByteArray.data_extract]
theorem L_append (a b : ByteArray) : L (a ++ b) = L a ++ L b := by
  simp [L, ByteArray.data_append]
theorem bt_L (s : ByteArray) (i : Int) : bt s i = (((L s).getD i.toNat 0).toNat : Int) := by
  unfold bt
  split
  · rename_i h
    have h' : i.toNat < (L s).length := by rw [← size_L]; exact h
    rw [List.getD_eq_getElem?_getD, List.getElem?_eq_getElem h']
    rfl
  · rename_i h
    have h' : (L s).length ≤ i.toNat := by rw [← size_L]; omega
    rw [List.getD_eq_getElem?_getD, List.getElem?_eq_none h']
    rfl
theorem bt_mid {x : ByteArray} {p : List UInt8} {c : UInt8} {r : List UInt8} (h : L x = p ++ c :: r) {i : Int} (hi : i = (p.length : Int)) : bt x i = (c.toNat : Int) := by
  rw [bt_L, h, hi]
  simp [List.getD_eq_getElem?_getD]
theorem bt_cons {x : ByteArray} {c : UInt8} {r : List UInt8} (h : L x = c :: r) : bt x 0 = (c.toNat : Int) := bt_mid (p := []) h rfl
theorem L_strOfNums (xs : List Int) : L (strOfNums xs) = xs.map fun n => UInt8.ofNat n.toNat := by simp [L, strOfNums]
theorem byte_le (c : UInt8) : (c.toNat : Int) ≤ 255 := by have := c.toNat_lt; omega
theorem byte_id (c : UInt8) : UInt8.ofNat ((c.toNat : Int)).toNat = c := by simp

theorem drop_len {α : Type} (p t : List α) (k : Nat) : (p ++ t).drop (p.length + k) = t.drop k := by
  rw [List.drop_append, List.drop_eq_nil_of_le (by omega), List.nil_append, Nat.add_sub_cancel_left]
theorem getD_len {α : Type} (p t : List α) (k : Nat) (d : α) : (p ++ t).getD (p.length + k) d = t.getD k d := by
  simp [List.getD_eq_getElem?_getD, List.getElem?_append_right]

/-- The labels of a name's bytes; none: they are no name (but for the limit on the whole). -/
def labs : List UInt8 → Option (List ByteArray)
  | [] => none
  | c :: r => if c.toNat = 0 then (if r = [] then some [] else none) else if 63 < c.toNat then none else if r.length < c.toNat then none else (labs (r.drop c.toNat)).map (B (r.take c.toNat) :: ·)
  termination_by l => l.length
  decreasing_by simp; omega

/-- The labels of a name. -/
def names (l : List UInt8) : Option (List ByteArray) := if l.length < 1 ∨ 255 < l.length then none else labs l

/-- What a cut in labels answers that had come to some. -/
def res (acc : List ByteArray) : Option (List ByteArray) → List ByteArray × Bool
  | none => ([], false)
  | some ls => (acc ++ ls, true)
theorem res_map (acc : List ByteArray) (b : ByteArray) (o : Option (List ByteArray)) : res acc (o.map (b :: ·)) = res (acc ++ [b]) o := by
  cases o <;> simp [res]

/-- What the other cut in labels leaves where it fails. -/
def jk (acc : List ByteArray) : List UInt8 → List ByteArray
  | [] => []
  | c :: r => if c.toNat = 0 then acc else if 63 < c.toNat then [] else if r.length < c.toNat then [] else jk (acc ++ [B (r.take c.toNat)]) (r.drop c.toNat)
  termination_by l => l.length
  decreasing_by simp; omega
def res2 (acc : List ByteArray) (l : List UInt8) : List ByteArray × Bool := match labs l with
  | none => (jk acc l, false)
  | some ls => (acc ++ ls, true)
theorem labs_count : ∀ (n : Nat) (l : List UInt8), l.length ≤ n → ∀ ls, labs l = some ls → ls.length + 1 ≤ l.length := by
  intro n
  induction n with
  | zero =>
    intro l hl ls h
    obtain rfl : l = [] := List.length_eq_zero_iff.1 (by omega)
    simp [labs] at h
  | succ n ih =>
    intro l hl ls h
    cases l with
    | nil => simp [labs] at h
    | cons c r =>
      simp only [List.length_cons] at hl ⊢
      rw [labs] at h
      by_cases h0 : c.toNat = 0
      · rw [if_pos h0] at h
        by_cases hr : r = []
        · rw [if_pos hr] at h
          obtain rfl := Option.some.inj h
          simp
        · rw [if_neg hr] at h
          cases h
      · rw [if_neg h0] at h
        by_cases h63 : 63 < c.toNat
        · rw [if_pos h63] at h
          cases h
        · rw [if_neg h63] at h
          by_cases hl2 : r.length < c.toNat
          · rw [if_pos hl2] at h
            cases h
          · rw [if_neg hl2] at h
            obtain ⟨t, ht, rfl⟩ := Option.map_eq_some_iff.1 h
            have := ih (r.drop c.toNat) (by simp; omega) t ht
            simp at this ⊢
            omega
theorem names_count {l : List UInt8} {ls : List ByteArray} (h : names l = some ls) : ls.length ≤ 254 := by
  unfold names at h
  split at h
  · cases h
  · have := labs_count _ l (Nat.le_refl _) ls h
    omega
end Go.Proofs.Ytpbmnokmpihnjaa.Base
namespace Go.Proofs.Ytpbmnokmpihnjaa.Base
open Go Go.RowKit Go.Proofs.YtpbmnokmpihnjaaW.PrintWords Go.Proofs.YtpbmnokmpihnjaaW.PrintMore

def low (c : UInt8) : UInt8 := if 65 ≤ c.toNat ∧ c.toNat ≤ 90 then UInt8.ofNat (c.toNat + 32) else c
theorem low_toNat (c : UInt8) : (low c).toNat = if 65 ≤ c.toNat ∧ c.toNat ≤ 90 then c.toNat + 32 else c.toNat := by
  unfold low
  split
  · rw [UInt8.toNat_ofNat']
    omega
  · rfl
theorem low_small {c : UInt8} (h : c.toNat ≤ 64) : low c = c := by
  unfold low
  rw [if_neg (by omega)]
theorem low_low (c : UInt8) : low (low c) = low c := by
  apply UInt8.toNat_inj.1
  rw [low_toNat (low c), low_toNat c]
  by_cases h : 65 ≤ c.toNat ∧ c.toNat ≤ 90
  · rw [if_pos h, if_neg (by omega)]
  · rw [if_neg h, if_neg h]
def foldB (s : ByteArray) : ByteArray := B ((L s).map low)
theorem L_foldB (s : ByteArray) : L (foldB s) = (L s).map low := L_B _
theorem foldB_size (s : ByteArray) : (foldB s).size = s.size := by rw [size_L, size_L, L_foldB, List.length_map]
theorem foldB_foldB (s : ByteArray) : foldB (foldB s) = foldB s := by
  apply L_inj
  rw [L_foldB, L_foldB, List.map_map]
  exact List.map_congr_left fun c _ => low_low c
def joinL (ls : List ByteArray) : List UInt8 := ls.flatMap fun s => UInt8.ofNat s.size :: L s
def join (ls : List ByteArray) : ByteArray := B (joinL ls ++ [0])
theorem joinL_cons (s : ByteArray) (t : List ByteArray) : joinL (s :: t) = UInt8.ofNat s.size :: (L s ++ joinL t) := by simp [joinL]
theorem joinL_append (a b : List ByteArray) : joinL (a ++ b) = joinL a ++ joinL b := by simp [joinL]
theorem L_join (ls : List ByteArray) : L (join ls) = joinL ls ++ [0] := L_B _
theorem size_join (ls : List ByteArray) : (join ls).size = (joinL ls).length + 1 := by rw [size_L, L_join]; simp
/-- A name's bytes are its labels joined, and each label has from 1 to 63 bytes. -/
theorem labs_join : ∀ (n : Nat) (l : List UInt8), l.length ≤ n → ∀ ls, labs l = some ls → l = joinL ls ++ [0] ∧ ∀ s ∈ ls, 1 ≤ s.size ∧ s.size ≤ 63 := by
  intro n
  induction n with
  | zero =>
    intro l hl ls h
    obtain rfl : l = [] := List.length_eq_zero_iff.1 (by omega)
    simp [labs] at h
  | succ n ih =>
    intro l hl ls h
    cases l with
    | nil => simp [labs] at h
    | cons c r =>
      simp only [List.length_cons] at hl
      rw [labs] at h
      by_cases h0 : c.toNat = 0
      · rw [if_pos h0] at h
        by_cases hr : r = []
        · rw [if_pos hr] at h
          obtain rfl := Option.some.inj h
          subst hr
          have : c = 0 := UInt8.toNat_inj.1 h0
          subst this
          exact ⟨by simp [joinL], by simp⟩
        · rw [if_neg hr] at h; cases h
      · rw [if_neg h0] at h
        by_cases h63 : 63 < c.toNat
        · rw [if_pos h63] at h; cases h
        · rw [if_neg h63] at h
          by_cases hl2 : r.length < c.toNat
          · rw [if_pos hl2] at h; cases h
          · rw [if_neg hl2] at h
            obtain ⟨t, ht, rfl⟩ := Option.map_eq_some_iff.1 h
            obtain ⟨h1, h2⟩ := ih (r.drop c.toNat) (by simp; omega) t ht
            have hs : (B (r.take c.toNat)).size = c.toNat := by rw [size_L, L_B, List.length_take]; omega
            refine ⟨?_, ?_⟩
            · rw [joinL_cons, hs, L_B, List.cons_append, List.append_assoc, ← h1, List.take_append_drop]
              simp
            · intro s hm
              rcases List.mem_cons.1 hm with rfl | hm
              · rw [hs]; omega
              · exact h2 s hm
theorem names_join {l : List UInt8} {ls : List ByteArray} (h : names l = some ls) : l = joinL ls ++ [0] ∧ (∀ s ∈ ls, 1 ≤ s.size ∧ s.size ≤ 63) ∧ l.length ≤ 255 := by
  unfold names at h
  split at h
  · cases h
  · obtain ⟨h1, h2⟩ := labs_join _ l (Nat.le_refl _) ls h
    exact ⟨h1, h2, by omega⟩
/-- Labels of good length, joined, are cut into just these labels. -/
theorem labs_of_join : ∀ (ls : List ByteArray), (∀ s ∈ ls, 1 ≤ s.size ∧ s.size ≤ 63) → labs (joinL ls ++ [0]) = some ls := by
  intro ls
  induction ls with
  | nil => intro _; simp [joinL, labs]
  | cons s t ih =>
    intro h
    have hs := h s (by simp)
    have ht := ih fun x hx => h x (by simp [hx])
    have hl := size_L s
    have hn : (UInt8.ofNat s.size).toNat = s.size := by rw [UInt8.toNat_ofNat']; omega
    rw [joinL_cons, List.cons_append, labs, hn, if_neg (by omega), if_neg (by omega), if_neg (by simp; omega)]
    have e1 : (L s ++ joinL t ++ [0]).drop s.size = joinL t ++ [0] := by rw [List.append_assoc, hl, List.drop_left]
    have e2 : (L s ++ joinL t ++ [0]).take s.size = L s := by rw [List.append_assoc, hl, List.take_left]
    rw [e1, e2, ht, B_L]
    rfl
theorem names_of_join {ls : List ByteArray} (h : ∀ s ∈ ls, 1 ≤ s.size ∧ s.size ≤ 63) (hn : (joinL ls).length + 1 ≤ 255) : names (joinL ls ++ [0]) = some ls := by
  unfold names
  rw [if_neg (by simp; omega), labs_of_join ls h]
theorem joinL_fold : ∀ (ls : List ByteArray), (∀ s ∈ ls, s.size ≤ 63) → (joinL ls).map low = joinL (ls.map foldB) := by
  intro ls
  induction ls with
  | nil => intro _; simp [joinL]
  | cons s t ih =>
    intro h
    have hs := h s (by simp)
    rw [joinL_cons, List.map_cons, List.map_append, ih fun x hx => h x (by simp [hx]), List.map_cons, joinL_cons, foldB_size, L_foldB, low_small (by rw [UInt8.toNat_ofNat']; omega)]
theorem fold_join {ls : List ByteArray} (h : ∀ s ∈ ls, s.size ≤ 63) : foldB (join ls) = join (ls.map foldB) := by
  apply L_inj
  rw [L_foldB, L_join, L_join, List.map_append, joinL_fold ls h]
  simp [low_small]
theorem join_names {a : ByteArray} {ls : List ByteArray} (h : names (L a) = some ls) : join ls = a := L_inj (by rw [L_join, ← (names_join h).1])
theorem mem_size {ls : List ByteArray} (h : ∀ s ∈ ls, 1 ≤ s.size ∧ s.size ≤ 63) : ∀ s ∈ ls, s.size ≤ 63 := fun s hs => (h s hs).2
theorem joinL_len_fold (ls : List ByteArray) : (joinL (ls.map foldB)).length = (joinL ls).length := by
  induction ls with
  | nil => rfl
  | cons s t ih => rw [List.map_cons, joinL_cons, joinL_cons]; simp [ih, L_foldB]
theorem joinL_len_drop (ls : List ByteArray) (n : Nat) : (joinL (ls.drop n)).length ≤ (joinL ls).length := by
  have h : joinL ls = joinL (ls.take n) ++ joinL (ls.drop n) := by rw [← joinL_append, List.take_append_drop]
  rw [h, List.length_append]; omega
theorem joinL_len_ge (ls : List ByteArray) : ls.length ≤ (joinL ls).length := by
  induction ls with
  | nil => simp
  | cons s t ih => rw [joinL_cons]; simp; omega
theorem mem_len_le {ls : List ByteArray} {s : ByteArray} (h : s ∈ ls) : s.size ≤ (joinL ls).length := by
  induction ls with
  | nil => cases h
  | cons x t ih =>
    rw [joinL_cons, size_L]
    rcases List.mem_cons.1 h with rfl | h
    · simp; omega
    · have := ih h
      rw [size_L] at this
      simp; omega
def sameN (a b : ByteArray) : Bool := (names (L a)).isSome && ((names (L b)).isSome && (L (foldB a) == L (foldB b)))
theorem foldB_ne {a : ByteArray} {ls : List ByteArray} (h : names (L a) = some ls) : L (foldB a) ≠ [] := by
  rw [L_foldB, (names_join h).1]
  simp
/-- A name without its first labels. -/
def ancN (o : Option (List ByteArray)) (n : Int) : ByteArray × Int := match o with
  | none => (⟨#[]⟩, 32)
  | some ls => if n < 0 ∨ n > (ls.length : Int) then (⟨#[]⟩, 32) else (join (ls.drop n.toNat), 0)
/-- The order of two names by their labels from the right, given turned round. -/
def cmpR : List ByteArray → List ByteArray → Int
  | [], [] => 0
  | [], _ :: _ => -1
  | _ :: _, [] => 1
  | a :: x, b :: y => if Lib.compareBytes (L (foldB a)) (L (foldB b)) = 0 then cmpR x y else Lib.compareBytes (L (foldB a)) (L (foldB b))
/-- The order of two names. -/
def cmpN (a b : ByteArray) : Int := match names (L a), names (L b) with
  | some x, some y => cmpR x.reverse y.reverse
  | _, _ => 0
theorem rev_drop (l : List ByteArray) (i : Nat) (h : i < l.length) : l.reverse.drop i = l.getD (l.length - (i + 1)) ByteArray.empty :: l.reverse.drop (i + 1) := by
  rw [List.drop_eq_getElem_cons (by simpa using h)]
  congr 1
  rw [List.getElem_reverse, List.getD_eq_getElem?_getD, List.getElem?_eq_getElem (by omega)]
  simp only [Option.getD_some]
  congr 1
  omega
/-- The name that labels make. -/
def mkN (ls : List ByteArray) : ByteArray × Int := if 127 < ls.length then (⟨#[]⟩, 3) else if ∃ s ∈ ls, s.size < 1 ∨ 63 < s.size then (⟨#[]⟩, 2) else if 255 < (joinL ls).length + 1 then (⟨#[]⟩, 3) else (join ls, 0)
def GoodL (ls : List ByteArray) : Prop := ∀ s ∈ ls, 1 ≤ s.size ∧ s.size ≤ 63
theorem join_inj {x y : List ByteArray} (hx : GoodL x) (hy : GoodL y) (h : join x = join y) : x = y := by
  have h2 : labs (L (join x)) = labs (L (join y)) := by rw [h]
  rw [L_join, L_join, labs_of_join x hx, labs_of_join y hy] at h2
  exact Option.some.inj h2
theorem GoodL.fold {x : List ByteArray} (hx : GoodL x) : GoodL (x.map foldB) := by
  intro s hs
  obtain ⟨t, ht, rfl⟩ := List.mem_map.1 hs
  rw [foldB_size]
  exact hx t ht
theorem GoodL.drop {x : List ByteArray} (hx : GoodL x) (n : Nat) : GoodL (x.drop n) := fun s hs => hx s (List.mem_of_mem_drop hs)
theorem GoodL.take {x : List ByteArray} (hx : GoodL x) (n : Nat) : GoodL (x.take n) := fun s hs => hx s (List.mem_of_mem_take hs)
theorem GoodL.append {x y : List ByteArray} (hx : GoodL x) (hy : GoodL y) : GoodL (x ++ y) := fun s hs => (List.mem_append.1 hs).elim (hx s) (hy s)
theorem foldB_join_iff {x y : List ByteArray} (hx : GoodL x) (hy : GoodL y) : foldB (join x) = foldB (join y) ↔ x.map foldB = y.map foldB := by
  rw [fold_join (mem_size hx), fold_join (mem_size hy)]
  exact ⟨join_inj hx.fold hy.fold, fun h => by rw [h]⟩
theorem names_good {a : ByteArray} {ls : List ByteArray} (h : names (L a) = some ls) : GoodL ls ∧ join ls = a ∧ (joinL ls).length + 1 ≤ 255 := by
  obtain ⟨h1, h2, h3⟩ := names_join h
  exact ⟨h2, join_names h, by rw [h1] at h3; simpa using h3⟩
theorem joinL_good_ge : ∀ {ls : List ByteArray}, GoodL ls → 2 * ls.length ≤ (joinL ls).length := by
  intro ls
  induction ls with
  | nil => intro _; simp
  | cons s t ih =>
    intro h
    have h1 := h s (by simp)
    have h2 := ih fun x hx => h x (by simp [hx])
    have := size_L s
    rw [joinL_cons]
    simp only [List.length_cons, List.length_append]
    omega
/-- The name of good labels. -/
def mkG (ls : List ByteArray) : ByteArray × Int := if 255 < (joinL ls).length + 1 then (⟨#[]⟩, 3) else (join ls, 0)
theorem mkN_good {ls : List ByteArray} (h : GoodL ls) : mkN ls = mkG ls := by
  have hl := joinL_good_ge h
  have hne : ¬ ∃ s ∈ ls, s.size < 1 ∨ 63 < s.size := by
    rintro ⟨s, hs, hb⟩
    have := h s hs
    omega
  unfold mkN mkG
  by_cases h1 : 127 < ls.length
  · rw [if_pos h1, if_pos (by omega)]
  · rw [if_neg h1, if_neg hne]
/-- Is a name another one or below it: by their labels. -/
def underL (x y : List ByteArray) : Bool := decide (y.length ≤ x.length ∧ (x.drop (x.length - y.length)).map foldB = y.map foldB)
def underN (a b : ByteArray) : Bool := match names (L a), names (L b) with
  | some x, some y => underL x y
  | _, _ => false
theorem sameN_iff {a b : ByteArray} {x y : List ByteArray} (hx : names (L a) = some x) (hy : names (L b) = some y) : sameN a b = decide (x.map foldB = y.map foldB) := by
  obtain ⟨gx, jx, _⟩ := names_good hx
  obtain ⟨gy, jy, _⟩ := names_good hy
  unfold sameN
  rw [hx, hy]
  simp only [Option.isSome_some, Bool.true_and]
  by_cases h : x.map foldB = y.map foldB
  · rw [decide_eq_true h, beq_iff_eq, ← jx, ← jy, (foldB_join_iff gx gy).2 h]
  · rw [decide_eq_false h, beq_eq_false_iff_ne]
    intro e
    rw [← jx, ← jy] at e
    exact h ((foldB_join_iff gx gy).1 (L_inj e))
/-- A name put below another one. -/
def tailN (a b c : ByteArray) : ByteArray × Int := match names (L a), names (L b), names (L c) with
  | some x, some y, some z => if underL x y = true ∧ x.length ≠ y.length then mkG (x.take (x.length - y.length) ++ z) else (⟨#[]⟩, 22)
  | _, _, _ => (⟨#[]⟩, 32)
end Go.Proofs.Ytpbmnokmpihnjaa.Base
namespace Go.Proofs.Ytpbmnokmpihnjaa.Pure
open Go.RowKit Go.Proofs.Ytpbmnokmpihnjaa.F Go.Proofs.Ytpbmnokmpihnjaa.Base Go.Proofs.YtpbmnokmpihnjaaW.PrintWords Go.Proofs.YtpbmnokmpihnjaaW.PrintLast Go.Proofs.YtpbmnokmpihnjaaW.PrintMore
set_option linter.unusedVariables false
set_option linter.unusedSimpArgs false
-- base: BaseName
theorem impl_joined_eq (l : List ByteArray) (hb : (joinL l).length ≤ 1000000000) : impl_joined.f l = some (join l) := by
  have hll := joinL_len_ge l
  have e : joinB l = joinL l := rfl
  unfold impl_joined.f
  rw [e, if_pos (by omega)]
  rfl

end Go.Proofs.Ytpbmnokmpihnjaa.Pure
namespace Go.Proofs.Ytpbmnokmpihnjaa.Pure
open Go.RowKit Go.Proofs.Ytpbmnokmpihnjaa.F Go.Proofs.Ytpbmnokmpihnjaa.Base Go.Proofs.YtpbmnokmpihnjaaW.PrintWords Go.Proofs.YtpbmnokmpihnjaaW.PrintLast Go.Proofs.YtpbmnokmpihnjaaW.PrintMore
set_option linter.unusedVariables false
set_option linter.unusedSimpArgs false
theorem impl_labelsOf_l0 (x : ByteArray) (hx255 : x.size ≤ 255) : ∀ (n k : Nat) (acc : List ByteArray) (p r : List UInt8), L x = p ++ r → r.length ≤ n → n < k → acc.length + r.length ≤ 300 → impl_labelsOf.l0 k x acc (p.length : Int) = some (res2 acc r) := by
  intro n
  induction n with
  | zero =>
    intro k acc p r hx hn hk hb
    obtain ⟨k, rfl⟩ : ∃ m, k = m + 1 := ⟨k - 1, by omega⟩
    obtain rfl : r = [] := List.length_eq_zero_iff.1 (by omega)
    have hs := size_L x
    rw [hx] at hs
    simp only [List.append_nil] at hs
    simp only [impl_labelsOf.l0]
    rw [if_neg (by omega)]
    simp [res2, labs, jk]
  | succ n ih =>
    intro k acc p r hx hn hk hb
    obtain ⟨k, rfl⟩ : ∃ m, k = m + 1 := ⟨k - 1, by omega⟩
    have hs := size_L x
    rw [hx] at hs
    simp only [impl_labelsOf.l0]
    cases r with
    | nil =>
      simp only [List.append_nil] at hs
      rw [if_neg (by omega)]
      simp [res2, labs, jk]
    | cons c r =>
      simp only [List.length_append, List.length_cons] at hs hn hb
      have hc := byte_le c
      rw [bt_mid hx rfl, if_pos (by omega), if_pos (by omega)]
      simp (maxSteps := 10000000) (disch := omega) only [w64]
      have hL := labs.eq_2 c r
      have hJ := jk.eq_2 acc c r
      unfold res2
      rw [hL, hJ]
      clear hL hJ
      by_cases h0 : c.toNat = 0
      · rw [if_pos (by omega), if_pos h0, if_pos h0]
        by_cases hr : r = []
        · rw [if_pos hr]
          subst hr
          simp at hs
          simp; omega
        · rw [if_neg hr]
          have : r.length ≠ 0 := fun h => hr (List.length_eq_zero_iff.1 h)
          simp; omega
      · rw [if_neg (by omega), if_neg h0, if_neg h0]
        by_cases h63 : 63 < c.toNat
        · rw [if_pos (by omega), if_pos h63, if_pos h63]
        · rw [if_neg (by omega), if_neg h63, if_neg h63]
          by_cases hl : r.length < c.toNat
          · rw [if_pos (by omega), if_pos hl, if_pos hl]
          · rw [if_neg (by omega), if_neg hl, if_neg hl, if_pos (by omega), if_pos (by omega), if_pos (by omega), if_pos (by omega)]
            have e0 : ((p.length : Int) + 1).toNat = p.length + 1 := by omega
            have e0' : ((p.length : Int) + 1 + (c.toNat : Int)).toNat = p.length + 1 + c.toNat := by omega
            rw [e0, e0']
            have e1 : x.extract (p.length + 1) (p.length + 1 + c.toNat) = B (r.take c.toNat) := L_inj (by
              rw [L_extract, hx, L_B, drop_len]
              simp)
            have e2 : (p.length : Int) + (1 + (c.toNat : Int)) = ((p ++ c :: r.take c.toNat).length : Int) := by
              simp [List.length_take]; omega
            rw [e1, e2, ih k _ (p ++ c :: r.take c.toNat) (r.drop c.toNat) (by rw [hx]; simp) (by simp; omega) (by omega) (by simp; omega)]
            unfold res2
            cases labs (List.drop c.toNat r) <;> simp
theorem impl_labelsOf_eq (a : ByteArray) (k : Nat) (hk : 400 ≤ k) : impl_labelsOf.f k a = some (match names (L a) with | none => ((impl_labelsOf.f 400 a).getD ([], false)) | some ls => (ls, true)) ∧ (names (L a) = none → ((impl_labelsOf.f 400 a).getD ([], false)).2 = false) := by
  have hs := size_L a
  have key : ∀ k, 400 ≤ k → impl_labelsOf.f k a = if 255 < (L a).length then some ([], false) else some (res2 [] (L a)) := by
    intro k hk
    unfold impl_labelsOf.f
    by_cases h2 : 255 < (L a).length
    · rw [if_pos (by omega), if_pos h2]
    · rw [if_neg (by omega), if_neg h2]
      exact impl_labelsOf_l0 a (by omega) (L a).length k [] [] (L a) rfl (Nat.le_refl _) (by omega) (by simp; omega)
  rw [key k hk, key 400 (Nat.le_refl _)]
  unfold names
  by_cases h1 : (L a).length < 1
  · have h0 : L a = [] := List.length_eq_zero_iff.1 (by omega)
    rw [if_neg (by omega), if_pos (by omega), h0]
    simp [res2, labs, jk]
  · by_cases h2 : 255 < (L a).length
    · rw [if_pos h2, if_pos (by omega)]; simp
    · rw [if_neg h2, if_neg (by omega)]
      unfold res2
      cases labs (L a) <;> simp
theorem impl_labelsOf_some {a : ByteArray} {ls : List ByteArray} (h : names (L a) = some ls) (k : Nat) (hk : 400 ≤ k) : impl_labelsOf.f k a = some (ls, true) := by
  have := (impl_labelsOf_eq a k hk).1
  rw [h] at this
  exact this
theorem impl_labelsOf_none {a : ByteArray} (h : names (L a) = none) (k : Nat) (hk : 400 ≤ k) : impl_labelsOf.f k a = some (((impl_labelsOf.f 400 a).getD ([], false)).1, false) := by
  obtain ⟨h1, h2⟩ := impl_labelsOf_eq a k hk
  rw [h] at h1
  rw [h1]
  exact congrArg some (Prod.ext rfl (h2 h))

end Go.Proofs.Ytpbmnokmpihnjaa.Pure
namespace Go.Proofs.Ytpbmnokmpihnjaa.Pure
open Go.RowKit Go.Proofs.Ytpbmnokmpihnjaa.F Go.Proofs.Ytpbmnokmpihnjaa.Base Go.Proofs.YtpbmnokmpihnjaaW.PrintWords Go.Proofs.YtpbmnokmpihnjaaW.PrintLast Go.Proofs.YtpbmnokmpihnjaaW.PrintMore
set_option linter.unusedVariables false
set_option linter.unusedSimpArgs false
-- base: BaseName
theorem impl_fold_eq (a : ByteArray) (ha : a.size ≤ 140737488355328) : impl_fold.f a = some (foldB a) := by
  unfold impl_fold.f
  rw [if_pos ha]
  congr 1
  apply L_inj
  rw [L_strOfNums, L_foldB, bytesOf, List.map_map, List.map_map]
  apply List.map_congr_left
  intro c _
  simp only [Function.comp, low8]
  unfold low
  by_cases h : 65 ≤ c.toNat ∧ c.toNat ≤ 90
  · rw [if_pos (by omega), if_pos h, show ((c.toNat : Int) + 32).toNat = c.toNat + 32 from by omega]
  · rw [if_neg (by omega), if_neg h]
    simp

end Go.Proofs.Ytpbmnokmpihnjaa.Pure
namespace Go.Proofs.Ytpbmnokmpihnjaa.Pure
open Go.RowKit Go.Proofs.Ytpbmnokmpihnjaa.F Go.Proofs.Ytpbmnokmpihnjaa.Base Go.Proofs.YtpbmnokmpihnjaaW.PrintWords Go.Proofs.YtpbmnokmpihnjaaW.PrintLast Go.Proofs.YtpbmnokmpihnjaaW.PrintMore
set_option linter.unusedVariables false
set_option linter.unusedSimpArgs false
-- base: BaseName
theorem impl_IsUnder_eq (a b : ByteArray) (k : Nat) (hk : 1000 ≤ k) : impl_IsUnder.f k a b = some (underN a b) := by
  obtain ⟨k, rfl⟩ : ∃ m, k = m + 1 := ⟨k - 1, by omega⟩
  unfold impl_IsUnder.f underN
  cases ha : names (L a) with
  | none =>
    rw [impl_labelsOf_none ha _ (by omega)]
    cases hb : names (L b) with
    | none => rw [impl_labelsOf_none hb _ (by omega)]; simp [impl_IsUnder.j0]
    | some y => rw [impl_labelsOf_some hb _ (by omega)]; simp [impl_IsUnder.j0]
  | some x =>
    rw [impl_labelsOf_some ha _ (by omega)]
    cases hb : names (L b) with
    | none => rw [impl_labelsOf_none hb _ (by omega)]; simp [impl_IsUnder.j0]
    | some y =>
      rw [impl_labelsOf_some hb _ (by omega)]
      obtain ⟨gx, jx, lx⟩ := names_good ha
      obtain ⟨gy, jy, ly⟩ := names_good hb
      have hlx := joinL_len_ge x
      have hly := joinL_len_ge y
      simp only [Option.bind_some, if_true, impl_IsUnder.j0]
      unfold underL
      by_cases h : x.length < y.length
      · rw [if_pos (by simp; omega), decide_eq_false (by omega)]
      · have hd := joinL_len_drop x (x.length - y.length)
        have gd := gx.drop (x.length - y.length)
        have hsb : b.size ≤ 255 := by rw [← jy, size_join]; exact ly
        rw [if_neg (by simp; omega), w64 (by omega) (by omega), if_pos (by omega), if_pos (by omega), show ((x.length : Int) - (y.length : Int)).toNat = x.length - y.length by omega, impl_joined_eq _ (by omega)]
        simp only [Option.bind_some]
        rw [impl_fold_eq _ (by rw [size_join]; omega), impl_fold_eq b (by omega)]
        simp only [Option.bind_some, toL, Option.some.injEq]
        rw [← jy]
        by_cases hf : (x.drop (x.length - y.length)).map foldB = y.map foldB
        · rw [decide_eq_true ⟨by omega, hf⟩, beq_iff_eq, (foldB_join_iff gd gy).2 hf]
        · rw [decide_eq_false (fun h1 => hf h1.2), beq_eq_false_iff_ne]
          intro e
          exact hf ((foldB_join_iff gd gy).1 (L_inj e))

end Go.Proofs.Ytpbmnokmpihnjaa.Pure
namespace Go.Proofs.Ytpbmnokmpihnjaa.Pure
open Go.RowKit Go.Proofs.Ytpbmnokmpihnjaa.F Go.Proofs.Ytpbmnokmpihnjaa.Base Go.Proofs.YtpbmnokmpihnjaaW.PrintWords Go.Proofs.YtpbmnokmpihnjaaW.PrintLast Go.Proofs.YtpbmnokmpihnjaaW.PrintMore
set_option linter.unusedVariables false
set_option linter.unusedSimpArgs false
theorem impl_NameOK_eq (a : ByteArray) (k : Nat) (hk : 400 ≤ k) : impl_NameOK.f k a = some (names (L a)).isSome := by
  unfold impl_NameOK.f
  cases h : names (L a) with
  | none => rw [impl_labelsOf_none h k hk]; simp
  | some ls => rw [impl_labelsOf_some h k hk]; simp

end Go.Proofs.Ytpbmnokmpihnjaa.Pure
namespace Go.Proofs.Ytpbmnokmpihnjaa.Pure
open Go.RowKit Go.Proofs.Ytpbmnokmpihnjaa.F Go.Proofs.Ytpbmnokmpihnjaa.Base Go.Proofs.YtpbmnokmpihnjaaW.PrintWords Go.Proofs.YtpbmnokmpihnjaaW.PrintLast Go.Proofs.YtpbmnokmpihnjaaW.PrintMore
set_option linter.unusedVariables false
set_option linter.unusedSimpArgs false
-- base: BaseName
theorem impl_SameName_eq (a b : ByteArray) (k : Nat) (hk : 400 ≤ k) : impl_SameName.f k a b = some (sameN a b) := by
  unfold impl_SameName.f sameN
  rw [impl_NameOK_eq a k hk, impl_NameOK_eq b k hk]
  simp only [Option.bind_some]
  cases ha : names (L a) with
  | none => simp
  | some ls =>
    cases hb : names (L b) with
    | none => simp
    | some ms =>
      have h1 := (names_join ha).2.2
      have h2 := (names_join hb).2.2
      rw [impl_fold_eq a (by rw [size_L]; omega), impl_fold_eq b (by rw [size_L]; omega)]
      simp only [Option.bind_some, Option.isSome_some, if_true, Bool.true_and, toL]

end Go.Proofs.Ytpbmnokmpihnjaa.Pure
namespace Go.Proofs.Ytpbmnokmpihnjaa.Pure
open Go.RowKit Go.Proofs.Ytpbmnokmpihnjaa.F Go.Proofs.Ytpbmnokmpihnjaa.Base Go.Proofs.YtpbmnokmpihnjaaW.PrintWords Go.Proofs.YtpbmnokmpihnjaaW.PrintLast Go.Proofs.YtpbmnokmpihnjaaW.PrintMore
set_option linter.unusedVariables false
set_option linter.unusedSimpArgs false
-- base: BaseName
theorem impl_strictly_eq (a b : ByteArray) (k : Nat) (hk : 1000 ≤ k) : impl_strictly.f k a b = some (underN a b && !sameN a b) := by
  unfold impl_strictly.f
  rw [impl_IsUnder_eq a b k hk, impl_SameName_eq a b k (by omega)]
  simp only [Option.bind_some]
  cases underN a b <;> simp

end Go.Proofs.Ytpbmnokmpihnjaa.Pure
namespace Go.Proofs.Ytpbmnokmpihnjaa.Pure
open Go.RowKit Go.Proofs.Ytpbmnokmpihnjaa.F Go.Proofs.Ytpbmnokmpihnjaa.Base Go.Proofs.YtpbmnokmpihnjaaW.PrintWords Go.Proofs.YtpbmnokmpihnjaaW.PrintLast Go.Proofs.YtpbmnokmpihnjaaW.PrintMore
set_option linter.unusedVariables false
set_option linter.unusedSimpArgs false
-- base: BaseName
theorem impl_ReplaceTail_eq (a b c : ByteArray) (k : Nat) (hk : 1001 ≤ k) : impl_ReplaceTail.f k a b c = some (tailN a b c) := by
  obtain ⟨k, rfl⟩ : ∃ m, k = m + 1 := ⟨k - 1, by omega⟩
  unfold impl_ReplaceTail.f tailN
  cases ha : names (L a) with
  | none =>
    rw [impl_labelsOf_none ha _ (by omega)]
    cases hb : names (L b) with
    | none =>
      rw [impl_labelsOf_none hb _ (by omega)]
      cases hc : names (L c) with
      | none => rw [impl_labelsOf_none hc _ (by omega)]; simp [impl_ReplaceTail.j0]
      | some z => rw [impl_labelsOf_some hc _ (by omega)]; simp [impl_ReplaceTail.j0]
    | some y =>
      rw [impl_labelsOf_some hb _ (by omega)]
      cases hc : names (L c) with
      | none => rw [impl_labelsOf_none hc _ (by omega)]; simp [impl_ReplaceTail.j0]
      | some z => rw [impl_labelsOf_some hc _ (by omega)]; simp [impl_ReplaceTail.j0]
  | some x =>
    rw [impl_labelsOf_some ha _ (by omega)]
    cases hb : names (L b) with
    | none =>
      rw [impl_labelsOf_none hb _ (by omega)]
      cases hc : names (L c) with
      | none => rw [impl_labelsOf_none hc _ (by omega)]; simp [impl_ReplaceTail.j0]
      | some z => rw [impl_labelsOf_some hc _ (by omega)]; simp [impl_ReplaceTail.j0]
    | some y =>
      rw [impl_labelsOf_some hb _ (by omega)]
      cases hc : names (L c) with
      | none => rw [impl_labelsOf_none hc _ (by omega)]; simp [impl_ReplaceTail.j0]
      | some z =>
        rw [impl_labelsOf_some hc _ (by omega)]
        obtain ⟨gx, jx, lx⟩ := names_good ha
        obtain ⟨gy, jy, ly⟩ := names_good hb
        obtain ⟨gz, jz, lz⟩ := names_good hc
        have hlx := joinL_len_ge x
        have hly := joinL_len_ge y
        have hlz := joinL_len_ge z
        have hu : underN a b = underL x y := by unfold underN; rw [ha, hb]
        simp only [Option.bind_some, if_true, Bool.not_true]
        rw [impl_ReplaceTail.j0, if_neg (by simp), impl_strictly_eq a b _ (by omega), hu, sameN_iff ha hb]
        simp only [Option.bind_some]
        cases hux : underL x y with
        | false => simp
        | true =>
          have hux' := hux
          unfold underL at hux'
          obtain ⟨hle, hdr⟩ := of_decide_eq_true hux'
          by_cases hne : x.length = y.length
          · have hd : x.map foldB = y.map foldB := by rw [← hdr, hne, Nat.sub_self, List.drop_zero]
            rw [decide_eq_true hd, if_neg (by simp), if_neg (fun h => h.2 hne)]
          · have hd : ¬ x.map foldB = y.map foldB := fun h => hne (by have := congrArg List.length h; simpa using this)
            have hnat : ((x.length : Int) - (y.length : Int)).toNat = x.length - y.length := by omega
            have hjl : (joinL (x.take (x.length - y.length) ++ z)).length ≤ 600 := by
              have h1 : joinL x = joinL (x.take (x.length - y.length)) ++ joinL (x.drop (x.length - y.length)) := by rw [← joinL_append, List.take_append_drop]
              have h2 := congrArg List.length h1
              rw [joinL_append, List.length_append]
              rw [List.length_append] at h2
              omega
            rw [decide_eq_false hd, if_pos (by simp), w64 (by omega) (by omega), if_pos (by omega), if_pos (by omega), hnat, if_pos (by simp; omega)]
            simp only [List.nil_append]
            rw [if_pos (by simp; omega), impl_joined_eq _ (by omega), if_pos ⟨trivial, hne⟩]
            simp only [Option.bind_some, size_join]
            unfold mkG
            by_cases h255 : 255 < (joinL (x.take (x.length - y.length) ++ z)).length + 1
            · rw [if_pos (by omega), if_pos h255]
            · rw [if_neg (by omega), if_neg h255]

end Go.Proofs.Ytpbmnokmpihnjaa.Pure
namespace Go.Proofs.Ytpbmnokmpihnjaa.Pure
open Go.RowKit Go.Proofs.Ytpbmnokmpihnjaa.F Go.Proofs.Ytpbmnokmpihnjaa.Base Go.Proofs.YtpbmnokmpihnjaaW.PrintWords Go.Proofs.YtpbmnokmpihnjaaW.PrintLast Go.Proofs.YtpbmnokmpihnjaaW.PrintMore
set_option linter.unusedVariables false
set_option linter.unusedSimpArgs false
-- base: BaseName
theorem spec_l01Join_eq (l : List ByteArray) (hb : (joinL l).length ≤ 1000000000) : spec_l01Join.f l = some (join l) := by
  have hll := joinL_len_ge l
  have e : joinS l = joinL l := rfl
  unfold spec_l01Join.f
  rw [e, if_pos (by omega)]
  rfl

end Go.Proofs.Ytpbmnokmpihnjaa.Pure
namespace Go.Proofs.Ytpbmnokmpihnjaa.Pure
open Go.RowKit Go.Proofs.Ytpbmnokmpihnjaa.F Go.Proofs.Ytpbmnokmpihnjaa.Base Go.Proofs.YtpbmnokmpihnjaaW.PrintWords Go.Proofs.YtpbmnokmpihnjaaW.PrintLast Go.Proofs.YtpbmnokmpihnjaaW.PrintMore
set_option linter.unusedVariables false
set_option linter.unusedSimpArgs false
-- base: BaseName
theorem spec_l01Small_l0 (x : ByteArray) (hx0 : x.size ≤ 1048576) : ∀ (n k : Nat) (acc : List Int) (p r : List UInt8), L x = p ++ r → r.length ≤ n → n < k → acc.length + r.length ≤ 1048576 → spec_l01Small.l0 k x acc (p.length : Int) = some (strOfNums (acc ++ r.map fun c => ((low c).toNat : Int))) := by
  intro n
  induction n with
  | zero =>
    intro k acc p r hx hn hk hb
    obtain ⟨k, rfl⟩ : ∃ m, k = m + 1 := ⟨k - 1, by omega⟩
    obtain rfl : r = [] := List.length_eq_zero_iff.1 (by omega)
    have hs := size_L x
    rw [hx] at hs
    simp only [List.append_nil] at hs
    rw [spec_l01Small.l0, if_neg (by omega)]
    simp
  | succ n ih =>
    intro k acc p r hx hn hk hb
    obtain ⟨k, rfl⟩ : ∃ m, k = m + 1 := ⟨k - 1, by omega⟩
    have hs := size_L x
    rw [hx] at hs
    rw [spec_l01Small.l0]
    cases r with
    | nil =>
      simp only [List.append_nil] at hs
      rw [if_neg (by omega)]
      simp
    | cons c r =>
      simp only [List.length_append, List.length_cons] at hs hn hb
      have hc := byte_le c
      rw [if_pos (by omega), if_pos (by omega), bt_mid hx rfl, w64 (by omega) (by omega)]
      have key : ∀ v : Int, v = ((low c).toNat : Int) → (if acc.length < 140737488355328 then spec_l01Small.l0 k x (acc ++ [v]) ((p.length : Int) + 1) else none) = some (strOfNums (acc ++ (c :: r).map fun c => ((low c).toNat : Int))) := by
        intro v hv
        rw [if_pos (by omega), show (p.length : Int) + 1 = ((p ++ [c]).length : Int) by simp, ih k _ (p ++ [c]) r (by rw [hx]; simp) (by omega) (by omega) (by simp; omega), hv]
        simp
      have hlow := low_toNat c
      by_cases h1 : (c.toNat : Int) ≥ 65
      · rw [if_pos h1]
        by_cases h2 : (c.toNat : Int) ≤ 90
        · rw [if_pos h2]
          rw [if_pos (by omega)] at hlow
          exact key _ (by omega)
        · rw [if_neg h2]
          rw [if_neg (by omega)] at hlow
          exact key _ (by omega)
      · rw [if_neg h1]
        rw [if_neg (by omega)] at hlow
        exact key _ (by omega)
theorem spec_l01Small_eq (a : ByteArray) (ha : a.size ≤ 1048576) (k : Nat) (hk : a.size < k) : spec_l01Small.f k a = some (foldB a) := by
  have hs := size_L a
  unfold spec_l01Small.f
  have h := spec_l01Small_l0 a ha (L a).length k [] [] (L a) rfl (Nat.le_refl _) (by omega) (by simp; omega)
  rw [show (([] : List UInt8).length : Int) = 0 from rfl] at h
  rw [h]
  congr 1
  apply L_inj
  rw [L_strOfNums, L_foldB]
  simp

end Go.Proofs.Ytpbmnokmpihnjaa.Pure
namespace Go.Proofs.Ytpbmnokmpihnjaa.Pure
open Go.RowKit Go.Proofs.Ytpbmnokmpihnjaa.F Go.Proofs.Ytpbmnokmpihnjaa.Base Go.Proofs.YtpbmnokmpihnjaaW.PrintWords Go.Proofs.YtpbmnokmpihnjaaW.PrintLast Go.Proofs.YtpbmnokmpihnjaaW.PrintMore
set_option linter.unusedVariables false
set_option linter.unusedSimpArgs false
theorem spec_l01Split_l0 : ∀ (n k : Nat) (acc : List ByteArray) (x : ByteArray), x.size ≤ n → n < k → acc.length + x.size ≤ 300 → spec_l01Split.l0 k acc x = some (res acc (labs (L x))) := by
  intro n
  induction n with
  | zero =>
    intro k acc x hn hk hb
    obtain ⟨k, rfl⟩ : ∃ m, k = m + 1 := ⟨k - 1, by omega⟩
    have hs := size_L x
    have hx : L x = [] := List.length_eq_zero_iff.1 (by omega)
    simp only [spec_l01Split.l0, toL]
    rw [if_pos hx, hx]
    simp [labs, res]
  | succ n ih =>
    intro k acc x hn hk hb
    obtain ⟨k, rfl⟩ : ∃ m, k = m + 1 := ⟨k - 1, by omega⟩
    have hs := size_L x
    simp only [spec_l01Split.l0, toL]
    cases hx : L x with
    | nil => rw [if_pos rfl]; simp [labs, res]
    | cons c r =>
      rw [hx] at hs
      simp only [List.length_cons] at hs
      have hc := byte_le c
      rw [bt_cons hx, if_neg (by simp), if_pos (by omega)]
      simp (maxSteps := 10000000) (disch := omega) only [w64]
      rw [labs]
      by_cases h0 : c.toNat = 0
      · rw [if_pos (by omega), if_pos h0]
        by_cases hr : r = []
        · rw [if_pos (by subst hr; simp at hs; omega), if_pos hr]; simp [res]
        · rw [if_neg (by intro h; exact hr (List.length_eq_zero_iff.1 (by omega))), if_neg hr]; simp [res]
      · rw [if_neg (by omega), if_neg h0]
        by_cases h63 : 63 < c.toNat
        · rw [if_pos (by omega), if_pos h63]; simp [res]
        · rw [if_neg (by omega), if_neg h63]
          by_cases hl : r.length < c.toNat
          · rw [if_pos (by omega), if_pos hl]; simp [res]
          · rw [if_neg (by omega), if_neg hl, if_pos (by omega), if_pos (by omega), if_pos (by omega), if_pos (by omega)]
            have e0 : ((c.toNat : Int) + 1).toNat = c.toNat + 1 := by omega
            rw [e0]
            have e1 : x.extract 1 (c.toNat + 1) = B (r.take c.toNat) := L_inj (by rw [L_extract, hx, L_B]; simp)
            have e2 : L (x.extract (c.toNat + 1) x.size) = r.drop c.toNat := by rw [L_extract, hx, hs]; simp [List.take_of_length_le]
            have e3 : (x.extract (c.toNat + 1) x.size).size = r.length - c.toNat := by rw [size_L, e2]; simp
            rw [ih k _ _ (by omega) (by omega) (by simp; omega), e1, e2, res_map]
theorem spec_l01Split_eq (a : ByteArray) (k : Nat) (hk : 400 ≤ k) : spec_l01Split.f k a = some (res [] (names (L a))) := by
  obtain ⟨k, rfl⟩ : ∃ m, k = m + 1 := ⟨k - 1, by omega⟩
  have hs := size_L a
  unfold spec_l01Split.f names
  simp only [Option.bind_some, spec_l01Split.j0]
  by_cases h1 : (L a).length < 1
  · rw [if_pos (by omega), if_pos trivial, if_pos (by omega)]; simp [res]
  · rw [if_neg (by omega)]
    by_cases h2 : 255 < (L a).length
    · rw [if_pos (by simp; omega), if_pos (by omega)]; simp [res]
    · rw [if_neg (by simp; omega), if_neg (by omega)]
      exact spec_l01Split_l0 a.size k [] a (Nat.le_refl _) (by omega) (by simp; omega)

end Go.Proofs.Ytpbmnokmpihnjaa.Pure
namespace Go.Proofs.Ytpbmnokmpihnjaa.Pure
open Go.RowKit Go.Proofs.Ytpbmnokmpihnjaa.F Go.Proofs.Ytpbmnokmpihnjaa.Base Go.Proofs.YtpbmnokmpihnjaaW.PrintWords Go.Proofs.YtpbmnokmpihnjaaW.PrintLast Go.Proofs.YtpbmnokmpihnjaaW.PrintMore
set_option linter.unusedVariables false
set_option linter.unusedSimpArgs false
-- base: BaseName
theorem spec_FoldName_l0 (l : List ByteArray) (hb : (joinL l).length ≤ 1000000) : ∀ (d k i : Nat), i + d = l.length → d + l.length + 1000000 < k → spec_FoldName.l0 k ((l.take i).map foldB ++ l.drop i) (i : Int) = some (join (l.map foldB)) := by
  have hll := joinL_len_ge l
  intro d
  induction d with
  | zero =>
    intro k i hi hk
    obtain ⟨k, rfl⟩ : ∃ m, k = m + 1 := ⟨k - 1, by omega⟩
    obtain rfl : i = l.length := by omega
    have e : (l.take l.length).map foldB ++ l.drop l.length = l.map foldB := by simp
    rw [spec_FoldName.l0, e, if_neg (by simp), spec_l01Join_eq _ (by rw [joinL_len_fold]; omega)]
    simp
  | succ d ih =>
    intro k i hi hk
    obtain ⟨k, rfl⟩ : ∃ m, k = m + 1 := ⟨k - 1, by omega⟩
    have hlen : ((l.take i).map foldB ++ l.drop i).length = l.length := by simp; omega
    have hel : rdOf ByteArray.empty ((l.take i).map foldB ++ l.drop i) (i : Int) = l[i]'(by omega) := by
      have hi' : i < l.length := by omega
      simp [rdOf, List.getD_eq_getElem?_getD, List.getElem?_append_right, Nat.min_eq_left (Nat.le_of_lt hi'), hi']
    have hm : l[i]'(by omega) ∈ l := List.getElem_mem _
    have hsz := mem_len_le hm
    rw [spec_FoldName.l0, if_pos (by omega), if_pos (by omega), hel, spec_l01Small_eq _ (by omega) k (by omega)]
    simp only [Option.bind_some]
    rw [w64 (by omega) (by omega)]
    have e : ((l.take i).map foldB ++ l.drop i).set (i : Int).toNat (foldB (l[i]'(by omega))) = (l.take (i + 1)).map foldB ++ l.drop (i + 1) := by
      rw [Int.toNat_natCast, List.set_append_right _ _ (by simp; omega), List.length_map, List.length_take, Nat.min_eq_left (by omega), Nat.sub_self, List.drop_eq_getElem_cons (by omega), List.set_cons_zero, List.take_succ_eq_append_getElem (by omega), List.map_append, List.append_assoc]
      simp
    rw [e]
    exact ih k (i + 1) (by omega) (by omega)
theorem spec_FoldName_eq (a : ByteArray) (k : Nat) (hk : 1100000 ≤ k) : spec_FoldName.f k a = some (if (names (L a)).isSome = true then foldB a else ⟨#[]⟩) := by
  unfold spec_FoldName.f
  rw [spec_l01Split_eq a k (by omega)]
  cases h : names (L a) with
  | none => simp [res]
  | some ls =>
    obtain ⟨h1, h2, h3⟩ := names_join h
    have hl : (joinL ls).length + 1 ≤ 255 := by rw [h1] at h3; simpa using h3
    have hll := joinL_len_ge ls
    simp only [res, Option.bind_some, if_true, List.nil_append, Option.isSome_some]
    have := spec_FoldName_l0 ls (by omega) ls.length k 0 (by omega) (by omega)
    simp only [List.take_zero, List.map_nil, List.nil_append, List.drop_zero] at this
    rw [show ((0 : Nat) : Int) = 0 from rfl] at this
    rw [this, ← fold_join (mem_size h2), join_names h]

end Go.Proofs.Ytpbmnokmpihnjaa.Pure
namespace Go.Proofs.Ytpbmnokmpihnjaa.Pure
open Go.RowKit Go.Proofs.Ytpbmnokmpihnjaa.F Go.Proofs.Ytpbmnokmpihnjaa.Base Go.Proofs.YtpbmnokmpihnjaaW.PrintWords Go.Proofs.YtpbmnokmpihnjaaW.PrintLast Go.Proofs.YtpbmnokmpihnjaaW.PrintMore
set_option linter.unusedVariables false
set_option linter.unusedSimpArgs false
-- base: BaseName
theorem spec_SameName_eq (a b : ByteArray) (k : Nat) (hk : 1100000 ≤ k) : spec_SameName.f k a b = some (sameN a b) := by
  unfold spec_SameName.f
  rw [spec_FoldName_eq a k hk, spec_FoldName_eq b k hk]
  simp only [Option.bind_some]
  unfold sameN
  cases ha : names (L a) with
  | none => simp [toL, L]
  | some ls =>
    simp only [Option.isSome_some, if_true, Bool.true_and]
    rw [toL, if_neg (foldB_ne ha)]
    cases hb : names (L b) with
    | none =>
      simp only [Option.isSome_none, Bool.false_eq_true, if_false, Bool.false_and]
      rw [toL]
      have := foldB_ne ha
      simp [L] at this ⊢
      exact this
    | some ms => simp only [Option.isSome_some, if_true, Bool.true_and, toL]

end Go.Proofs.Ytpbmnokmpihnjaa.Pure
namespace Go.Proofs.Ytpbmnokmpihnjaa.Pure
open Go.RowKit Go.Proofs.Ytpbmnokmpihnjaa.F Go.Proofs.Ytpbmnokmpihnjaa.Base Go.Proofs.YtpbmnokmpihnjaaW.PrintWords Go.Proofs.YtpbmnokmpihnjaaW.PrintLast Go.Proofs.YtpbmnokmpihnjaaW.PrintMore
set_option linter.unusedVariables false
set_option linter.unusedSimpArgs false
-- base: BaseName
theorem spec_IsUnder_eq (a b : ByteArray) (k : Nat) (hk : 1100001 ≤ k) : spec_IsUnder.f k a b = some (underN a b) := by
  obtain ⟨k, rfl⟩ : ∃ m, k = m + 1 := ⟨k - 1, by omega⟩
  unfold spec_IsUnder.f underN
  rw [spec_l01Split_eq a _ (by omega), spec_l01Split_eq b _ (by omega)]
  cases ha : names (L a) with
  | none => simp [res, spec_IsUnder.j0]
  | some x =>
    cases hb : names (L b) with
    | none => simp [res, spec_IsUnder.j0]
    | some y =>
      obtain ⟨gx, jx, lx⟩ := names_good ha
      obtain ⟨gy, jy, ly⟩ := names_good hb
      have hlx := joinL_len_ge x
      have hly := joinL_len_ge y
      simp only [res, Option.bind_some, List.nil_append, if_true, spec_IsUnder.j0]
      unfold underL
      by_cases h : x.length < y.length
      · rw [if_pos (by simp; omega), decide_eq_false (by omega)]
      · have hd := joinL_len_drop x (x.length - y.length)
        have gd := gx.drop (x.length - y.length)
        have hn : names (L (join (x.drop (x.length - y.length)))) = some (x.drop (x.length - y.length)) := by rw [L_join]; exact names_of_join gd (by omega)
        rw [if_neg (by simp; omega), w64 (by omega) (by omega), if_pos (by omega), if_pos (by omega), show ((x.length : Int) - (y.length : Int)).toNat = x.length - y.length by omega, spec_l01Join_eq _ (by omega)]
        simp only [Option.bind_some]
        rw [spec_SameName_eq _ _ k (by omega), sameN_iff hn hb]
        simp only [Option.bind_some, Option.some.injEq, decide_eq_decide]
        exact ⟨fun h1 => ⟨by omega, h1⟩, fun h1 => h1.2⟩

end Go.Proofs.Ytpbmnokmpihnjaa.Pure
namespace Go.Proofs.Ytpbmnokmpihnjaa.Pure
open Go.RowKit Go.Proofs.Ytpbmnokmpihnjaa.F Go.Proofs.Ytpbmnokmpihnjaa.Base Go.Proofs.YtpbmnokmpihnjaaW.PrintWords Go.Proofs.YtpbmnokmpihnjaaW.PrintLast Go.Proofs.YtpbmnokmpihnjaaW.PrintMore
set_option linter.unusedVariables false
set_option linter.unusedSimpArgs false
-- base: BaseName
theorem joinL_bound : ∀ (l : List ByteArray), (∀ s ∈ l, s.size ≤ 63) → (joinL l).length ≤ 64 * l.length := by
  intro l
  induction l with
  | nil => intro _; simp [joinL]
  | cons s t ih =>
    intro h
    have h1 := h s (by simp)
    have h2 := ih fun x hx => h x (by simp [hx])
    rw [joinL_cons]
    have := size_L s
    simp only [List.length_cons, List.length_append]
    omega
theorem spec_MakeName_l0 (l : List ByteArray) (hl : l.length ≤ 127) (hz : ∀ s ∈ l, s.size ≤ 1048576) : ∀ (d k i : Nat), i + d = l.length → d < k → (∀ s ∈ l.take i, 1 ≤ s.size ∧ s.size ≤ 63) → spec_MakeName.l0 k l (i : Int) = some (mkN l) := by
  intro d
  induction d with
  | zero =>
    intro k i hi hk hg
    obtain ⟨k, rfl⟩ : ∃ m, k = m + 1 := ⟨k - 1, by omega⟩
    rw [List.take_of_length_le (by omega)] at hg
    have hb := joinL_bound l (mem_size hg)
    rw [spec_MakeName.l0, if_neg (by omega), spec_l01Join_eq l (by omega)]
    simp only [Option.bind_some, size_join]
    have hne : ¬ ∃ s ∈ l, s.size < 1 ∨ 63 < s.size := by
      rintro ⟨s, hs, h⟩
      have := hg s hs
      omega
    unfold mkN
    rw [if_neg (show ¬ 127 < l.length by omega), if_neg hne]
    by_cases h : 255 < (joinL l).length + 1
    · rw [if_pos (by omega), if_pos h]
    · rw [if_neg (by omega), if_neg h]
  | succ d ih =>
    intro k i hi hk hg
    obtain ⟨k, rfl⟩ : ∃ m, k = m + 1 := ⟨k - 1, by omega⟩
    have hi' : i < l.length := by omega
    have hel : rdOf ByteArray.empty l (i : Int) = l[i] := by simp [rdOf, List.getD_eq_getElem?_getD, hi']
    rw [spec_MakeName.l0, if_pos (by omega), if_pos (by omega), hel]
    have hbad : (l[i].size < 1 ∨ 63 < l[i].size) → mkN l = (⟨#[]⟩, 2) := by
      intro h
      unfold mkN
      rw [if_neg (by omega), if_pos ⟨l[i], List.getElem_mem _, h⟩]
    by_cases h1 : (l[i].size : Int) < 1
    · rw [if_pos h1, hbad (.inl (by omega))]
    · rw [if_neg h1]
      by_cases h2 : (l[i].size : Int) > 63
      · rw [if_pos h2, hbad (.inr (by omega))]
      · rw [if_neg h2, w64 (by omega) (by omega)]
        refine ih k (i + 1) (by omega) (by omega) ?_
        rw [List.take_succ_eq_append_getElem hi']
        intro s hs
        rcases List.mem_append.1 hs with h | h
        · exact hg s h
        · obtain rfl := List.mem_singleton.1 h
          omega
theorem spec_MakeName_eq (l : List ByteArray) (hz : ∀ s ∈ l, s.size ≤ 1048576) (k : Nat) (hk : 200 ≤ k) : spec_MakeName.f k l = some (mkN l) := by
  unfold spec_MakeName.f
  by_cases h : 127 < l.length
  · rw [if_pos (by omega)]
    unfold mkN
    rw [if_pos h]
  · rw [if_neg (by omega)]
    exact spec_MakeName_l0 l (by omega) hz l.length k 0 (by omega) (by omega) (by simp)

end Go.Proofs.Ytpbmnokmpihnjaa.Pure
namespace Go.Proofs.Ytpbmnokmpihnjaa.Pure
open Go.RowKit Go.Proofs.Ytpbmnokmpihnjaa.F Go.Proofs.Ytpbmnokmpihnjaa.Base Go.Proofs.YtpbmnokmpihnjaaW.PrintWords Go.Proofs.YtpbmnokmpihnjaaW.PrintLast Go.Proofs.YtpbmnokmpihnjaaW.PrintMore
set_option linter.unusedVariables false
set_option linter.unusedSimpArgs false
-- base: BaseName
theorem spec_ReplaceTail_l1 (z : List ByteArray) (hz : z.length ≤ 300) : ∀ (d k i : Nat) (acc : List ByteArray), i + d = z.length → d + 300 < k → acc.length + d ≤ 1000 → (∀ s ∈ acc ++ z.drop i, s.size ≤ 1048576) → spec_ReplaceTail.l1 k z acc (i : Int) = some (mkN (acc ++ z.drop i)) := by
  intro d
  induction d with
  | zero =>
    intro k i acc hi hk ha hs
    obtain ⟨k, rfl⟩ : ∃ m, k = m + 1 := ⟨k - 1, by omega⟩
    rw [List.drop_of_length_le (by omega), List.append_nil] at hs ⊢
    rw [spec_ReplaceTail.l1, if_neg (by omega), spec_MakeName_eq acc hs k (by omega)]
    rfl
  | succ d ih =>
    intro k i acc hi hk ha hs
    obtain ⟨k, rfl⟩ : ∃ m, k = m + 1 := ⟨k - 1, by omega⟩
    have hi' : i < z.length := by omega
    have hel : rdOf ByteArray.empty z (i : Int) = z[i] := by simp [rdOf, List.getD_eq_getElem?_getD, hi']
    have e : acc ++ z.drop i = (acc ++ [z[i]]) ++ z.drop (i + 1) := by rw [List.drop_eq_getElem_cons hi']; simp
    rw [e] at hs ⊢
    rw [spec_ReplaceTail.l1, if_pos (by omega), if_pos (by omega), if_pos (by omega), hel, w64 (by omega) (by omega)]
    exact ih k (i + 1) (acc ++ [z[i]]) (by omega) (by omega) (by simp; omega) hs
theorem spec_ReplaceTail_l0 (x y z : List ByteArray) (hx : x.length ≤ 300) (hy : y.length ≤ x.length) (hz : z.length ≤ 300) : ∀ (d k i : Nat), i + d = x.length - y.length → d + 700 < k → (∀ s ∈ x.take (x.length - y.length) ++ z, s.size ≤ 1048576) → spec_ReplaceTail.l0 k x y z (x.take i) (i : Int) = some (mkN (x.take (x.length - y.length) ++ z)) := by
  intro d
  induction d with
  | zero =>
    intro k i hi hk hs
    obtain ⟨k, rfl⟩ : ∃ m, k = m + 1 := ⟨k - 1, by omega⟩
    obtain rfl : i = x.length - y.length := by omega
    rw [spec_ReplaceTail.l0, w64 (by omega) (by omega), if_neg (by omega)]
    have := spec_ReplaceTail_l1 z hz z.length k 0 (x.take (x.length - y.length)) (by omega) (by omega) (by simp; omega) (by simpa using hs)
    simpa using this
  | succ d ih =>
    intro k i hi hk hs
    obtain ⟨k, rfl⟩ : ∃ m, k = m + 1 := ⟨k - 1, by omega⟩
    have hi' : i < x.length := by omega
    have hel : rdOf ByteArray.empty x (i : Int) = x[i] := by simp [rdOf, List.getD_eq_getElem?_getD, hi']
    rw [spec_ReplaceTail.l0, w64 (x := (x.length : Int) - (y.length : Int)) (by omega) (by omega), if_pos (by omega), if_pos (by omega), if_pos (by omega), if_pos (by simp; omega), hel, w64 (by omega) (by omega), ← List.take_succ_eq_append_getElem hi']
    exact ih k (i + 1) (by omega) (by omega) hs
theorem spec_ReplaceTail_eq (a b c : ByteArray) (k : Nat) (hk : 1100010 ≤ k) : spec_ReplaceTail.f k a b c = some (tailN a b c) := by
  obtain ⟨k, rfl⟩ : ∃ m, k = m + 2 := ⟨k - 2, by omega⟩
  unfold spec_ReplaceTail.f tailN
  rw [spec_l01Split_eq a _ (by omega), spec_l01Split_eq b _ (by omega), spec_l01Split_eq c _ (by omega)]
  cases ha : names (L a) with
  | none => simp [res, spec_ReplaceTail.j0]
  | some x =>
    cases hb : names (L b) with
    | none => simp [res, spec_ReplaceTail.j0]
    | some y =>
      cases hc : names (L c) with
      | none => simp [res, spec_ReplaceTail.j0]
      | some z =>
        obtain ⟨gx, jx, lx⟩ := names_good ha
        obtain ⟨gy, jy, ly⟩ := names_good hb
        obtain ⟨gz, jz, lz⟩ := names_good hc
        have hlx := joinL_len_ge x
        have hly := joinL_len_ge y
        have hlz := joinL_len_ge z
        have hu : underN a b = underL x y := by unfold underN; rw [ha, hb]
        simp only [res, Option.bind_some, List.nil_append, if_true, Bool.not_true, Bool.false_eq_true, if_false]
        rw [spec_ReplaceTail.j0, if_neg (by simp), spec_IsUnder_eq a b _ (by omega), hu]
        simp only [Option.bind_some]
        cases hux : underL x y with
        | false => simp [spec_ReplaceTail.j1]
        | true =>
          have hle : y.length ≤ x.length := by unfold underL at hux; exact (of_decide_eq_true hux).1
          rw [if_pos rfl, spec_ReplaceTail.j1]
          by_cases hne : x.length = y.length
          · rw [if_pos (by rw [hne]; simp), if_neg (fun h => h.2 hne)]
          · rw [if_neg (by rw [beq_iff_eq]; omega), if_pos ⟨rfl, hne⟩, ← mkN_good ((gx.take _).append gz)]
            have := spec_ReplaceTail_l0 x y z (by omega) hle (by omega) (x.length - y.length) k 0 (by omega) (by omega) (fun s hs => by have := ((gx.take (x.length - y.length)).append gz) s hs; omega)
            simpa using this

end Go.Proofs.Ytpbmnokmpihnjaa.Pure
namespace Go.Proofs.Ytpbmnokmpihnjaa.Pure
open Go.RowKit Go.Proofs.Ytpbmnokmpihnjaa.F Go.Proofs.Ytpbmnokmpihnjaa.Base Go.Proofs.YtpbmnokmpihnjaaW.PrintWords Go.Proofs.YtpbmnokmpihnjaaW.PrintLast Go.Proofs.YtpbmnokmpihnjaaW.PrintMore
set_option linter.unusedVariables false
set_option linter.unusedSimpArgs false
theorem FnExactReplaceTail : laws_FnExactReplaceTail.Pure := by
  intro a b c _ _ _
  refine ⟨1100010, ?_⟩
  unfold laws_FnExactReplaceTail.f
  by_cases h : (a.size : Int) > 1048576
  · rw [if_pos h]
  · by_cases h2 : (b.size : Int) > 1048576
    · rw [if_neg h, if_pos h2]
    · by_cases h3 : (c.size : Int) > 1048576
      · rw [if_neg h, if_neg h2, if_pos h3]
      · rw [if_neg h, if_neg h2, if_neg h3, spec_ReplaceTail_eq a b c _ (Nat.le_refl _), impl_ReplaceTail_eq a b c _ (by omega)]
        simp

end Go.Proofs.Ytpbmnokmpihnjaa.Pure
namespace Go.Proofs.Ytpbmnokmpihnjaa.fnExactReplaceTail
open Go.ChangeShapes Go.WideShapes Go.ChangeAt Go.RowKit
open Go.ChangeMaps (open_string shut_string)
set_option linter.unusedVariables false
theorem own : ownKnob Try.prog.godebug = none := by kernel_rfl
set_option maxRecDepth 100000 in
theorem lifted (os : Os) (started : os.Started) (H : Type) (enc : TypeId × Value → H) :
    ReturnsInHanded {} Try.checked os 5 .any (Rows.fnExactReplaceTailSpec.pre6 enc Try.prog Try.f5 Rows.fnExactReplaceTailRow.domain false) (Rows.fnExactReplaceTailSpec.post enc Try.prog Try.f5 false true false false) := by
  refine returnsInHanded_of_change_sized (C := Try.checked) own started (by kernel_rfl) Try.func5
    (ChangeSpec.witness6 (enc := enc) (C := Try.checked) false ⟨#[], #[.string ByteArray.empty, .string ByteArray.empty, .string ByteArray.empty], []⟩ 8 (by kernel_rfl) (by kernel_rfl) (by kernel_rfl) (by kernel_rfl)) ?_
  intro W base args ds gs before hval0 hW hcnd hsz0 _
  have hsz : (DataW.weightsEach Try.prog (Try.f5.params.toList ++ Rows.fnExactReplaceTailSpec.plain.varTypes Try.prog) (ds ++ gs)).all (· ≤ reachBytes) = true := hsz0
  have hval : ∀ (j : Nat) t v, Try.f5.params[j]? = some t → args[j]? = some v → Value.okWide Try.prog W .any base t v := hval0
  have hW' := hW
  obtain ⟨p, q, hA0, hV, rfl, hfz, hnd⟩ := hW
  have hA : DataW.TrodAll enc Try.prog W 0 (fun _ => true) true Try.f5.params.toList args.toList ds p := hA0
  rw [Try.params5] at hA hval hsz
  obtain ⟨v0, vs0, d0, ds0, p0, q0, hargs, rfl, rfl, h0, r0⟩ := trodAll_cons hA
  obtain ⟨v1, vs1, d1, ds1, p1, q1, rfl, rfl, rfl, h1, r1⟩ := trodAll_cons r0
  obtain ⟨v2, vs2, d2, ds2, p2, q2, rfl, rfl, rfl, h2, r2⟩ := trodAll_cons r1
  obtain ⟨rfl, rfl, rfl⟩ := trodAll_nil r2
  obtain rfl : args = #[v0, v1, v2] := by cases args; simp_all
  obtain ⟨rfl, rfl⟩ := trodVars_none hV
  obtain ⟨a0, rfl, rfl, rfl, y0⟩ := open_string Try.underlying9 (hval 0 9 v0 rfl rfl) h0
  have w0 : a0.size ≤ 140737488351232 := by
    have z := sized_string hsz (j := 0) (t := 9) rfl rfl
    rw [Array.length_toList] at z
    exact z
  obtain ⟨a1, rfl, rfl, rfl, y1⟩ := open_string Try.underlying9 (hval 1 9 v1 rfl rfl) h1
  have w1 : a1.size ≤ 140737488351232 := by
    have z := sized_string hsz (j := 1) (t := 9) rfl rfl
    rw [Array.length_toList] at z
    exact z
  obtain ⟨a2, rfl, rfl, rfl, y2⟩ := open_string Try.underlying9 (hval 2 9 v2 rfl rfl) h2
  have w2 : a2.size ≤ 140737488351232 := by
    have z := sized_string hsz (j := 2) (t := 9) rfl rfl
    rw [Array.length_toList] at z
    exact z
  clear hA0 hval0 hsz0 hsz
  refine (F.laws_FnExactReplaceTail.walk Pure.FnExactReplaceTail a0 a1 a2 W w0 w1 w2).mono fun e W' ⟨he, bel⟩ => ?_
  subst he
  exact ⟨_, rfl, _, _, _, [], _, [], hW', trodAll_mk1 (shut_bool Try.underlying4 _), (trodAll_cons_mk (shut_string Try.underlying9 y0) (trodAll_cons_mk (shut_string Try.underlying9 y1) (trodAll_cons_mk (shut_string Try.underlying9 y2) trodAll_mk0))), rfl, bel.frame _, fun h => by cases h⟩
theorem over : Rows.fnExactReplaceTailRow.holds Try.pinned (OpenSpec.ofChange Rows.fnExactReplaceTailSpec) :=
  OpenClaim.holds_of_wide 5 Try.f5 rfl rfl rfl rfl rfl rfl rfl ⟨rfl, rfl, rfl, rfl, rfl⟩ rfl rfl rfl rfl rfl (by kernel_rfl) Try.func5 (by kernel_rfl)
    (of_decide_eq_true (by kernel_rfl)) (by unfold Func.isWrapper; first | (rw [if_pos (by decide +kernel)]; kernel_rfl) | (rw [if_neg (by decide +kernel)]; exact ⟨rfl, rfl⟩))
    (fun os started H enc _ => lifted os started H enc)
theorem proved : Rows.FnExactReplaceTailSaid := over
#print axioms proved
end Go.Proofs.Ytpbmnokmpihnjaa.fnExactReplaceTail
namespace Go.Proofs.Ytpbmnokmpihnjaa
/-- The row, under a short name, for the claim. -/
theorem fnExactReplaceTail_holds : Rows.FnExactReplaceTailSaid := fnExactReplaceTail.proved
end Go.Proofs.Ytpbmnokmpihnjaa
