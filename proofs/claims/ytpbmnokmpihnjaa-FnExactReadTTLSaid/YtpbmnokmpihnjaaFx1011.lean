-- Written by a program of this session (wip/myprint.py, over the kit's print). Not trusted: Lean checks it.
import Derived.Maps.Own
import Derived.Maps.OwnOps
import Derived.OpenShut
import Derived.Test.YtpbmnokmpihnjaaFx0
import Derived.Test.YtpbmnokmpihnjaaFx1033
namespace Go.Proofs.Ytpbmnokmpihnjaa.F
open Go Go.Shelf Go.RowKit Go.Proofs.YtpbmnokmpihnjaaW.PrintWords Go.Proofs.YtpbmnokmpihnjaaW.PrintLast Go.Proofs.YtpbmnokmpihnjaaW.PrintMore
attribute [local go_sem] max2_int min2_int max_two min_two max_three min_three max_four min_four   -- for this text's walks alone
set_option linter.unusedVariables false
set_option linter.unusedSimpArgs false

-- stands: the map literal of ReadTTL's units, laid and looked up
open Go.Maps in
theorem xunit_put {D : DataW Unit} {n : Nat} (w : World) {ops : Array Oper} {rest : List Oper} {o : Oper} {a : Act} {Q : Exit → Act → World → Prop}
    (hg : o.guard = none) (m x v : Operand) (hop : o.op = Op.insert 51 m x v) (b : Nat) (key val : Int)
    (hm : a.eval m = .map (some b)) (hown : w.ownsMap Try.prog 5 (plainElem Try.prog 2) b n D) (hn : n < 100) (hx : a.eval x = .int .u8 key) (hv : a.eval v = .int .i64 val)
    (hkey : (Lit.int .u8 key).wf = true) (hval : (Lit.int .i64 val).wf = true)
    (hK : ∀ w', w'.ownsMap Try.prog 5 (plainElem Try.prog 2) b (n + 1) (D.put (.int .u8 key) (.lit (.int .i64 val))) → w.grownBy w' (some b) → wpList Try.prog ops Q rest (a.put o.dst undef) w') :
    wpList Try.prog ops Q (o :: rest) a w := by
  refine wpList_plain hg fun K' hK' => ?_
  obtain ⟨w', hrun, r1, r2⟩ := hown.update (int_keyed Try.underlying5) Try.underlying51 (by unfold maxLen; omega) (keyOf_int_mk Try.underlying5 hkey) (plainElem_int Try.underlying2 hval)
  unfold Oper.wp
  simp [execOp, hop, hm, hx, hv, hrun, Result.andThen]
  exact hK' _ _ (hK w' r1 r2)
def xunitD : DataW Unit := (((((DataW.map []).put (.int .u8 115) (.lit (.int .i64 1))).put (.int .u8 109) (.lit (.int .i64 60))).put (.int .u8 104) (.lit (.int .i64 3600))).put (.int .u8 100) (.lit (.int .i64 86400))).put (.int .u8 119) (.lit (.int .i64 604800))
def xunit.f (c : Int) : Option Int := some (if c = 115 then 1 else if c = 109 then 60 else if c = 104 then 3600 else if c = 100 then 86400 else if c = 119 then 604800 else 0)
theorem xunit_lay {w : World} {ops : Array Oper} {rest : List Oper} {o0 o1 o2 o3 o4 o5 : Oper} {a : Act} {Q : Exit → Act → World → Prop} (t : Nat)
    (e0 : o0.op = .makeMap 51 none) (d0 : o0.dst = some t) (g0 : o0.guard = none) (ht : t < a.tmps.size)
    (e1 : o1.op = .insert 51 (.tmp t) (.const (.int .u8 115)) (.const (.int .i64 1))) (g1 : o1.guard = none) (d1 : o1.dst = none)
    (e2 : o2.op = .insert 51 (.tmp t) (.const (.int .u8 109)) (.const (.int .i64 60))) (g2 : o2.guard = none) (d2 : o2.dst = none)
    (e3 : o3.op = .insert 51 (.tmp t) (.const (.int .u8 104)) (.const (.int .i64 3600))) (g3 : o3.guard = none) (d3 : o3.dst = none)
    (e4 : o4.op = .insert 51 (.tmp t) (.const (.int .u8 100)) (.const (.int .i64 86400))) (g4 : o4.guard = none) (d4 : o4.dst = none)
    (e5 : o5.op = .insert 51 (.tmp t) (.const (.int .u8 119)) (.const (.int .i64 604800))) (g5 : o5.guard = none) (d5 : o5.dst = none)
    (h : ∀ w', Below w.heap.size w w' → Aside0 (w'.ownsMap Try.prog 5 (plainElem Try.prog 2) w.heap.size 5 xunitD) → wpList Try.prog ops Q rest (a.put (some t) (.map (some w.heap.size))) w') :
    wpList Try.prog ops Q (o0 :: o1 :: o2 :: o3 :: o4 :: o5 :: rest) a w := by
  have hev : (a.put (some t) (.map (some w.heap.size))).eval (.tmp t) = .map (some w.heap.size) := by simp [Act.put, Act.eval, ht]
  have hp : ∀ a : Act, a.put none undef = a := fun _ => rfl
  refine wpList_plain g0 fun K' hK' => ?_
  unfold Oper.wp
  simp only [execOp, e0, Sem.run_bind, run_makeMap, Result.andThen_ok, d0]
  refine hK' _ _ ?_
  rw [d0]
  have hB0 : Below w.heap.size w (w.alloc (.map #[] 0)) := (Below.refl _ _).alloc (Nat.le_refl _) _
  have hw0 := World.ownsMap_made (H := Unit) w Try.prog 5 (plainElem Try.prog 2)
  refine xunit_put _ g1 _ _ _ e1 w.heap.size 115 1 hev hw0 (by decide) rfl rfl (by decide) (by decide) fun w1 o1' b1 => ?_
  rw [d1, hp]
  have hB1 := hB0.grown b1 hB0.size (fun j hj => by cases hj; exact Nat.le_refl _)
  refine xunit_put _ g2 _ _ _ e2 w.heap.size 109 60 hev o1' (by decide) rfl rfl (by decide) (by decide) fun w2 o2' b2 => ?_
  rw [d2, hp]
  have hB2 := hB1.grown b2 hB1.size (fun j hj => by cases hj; exact Nat.le_refl _)
  refine xunit_put _ g3 _ _ _ e3 w.heap.size 104 3600 hev o2' (by decide) rfl rfl (by decide) (by decide) fun w3 o3' b3 => ?_
  rw [d3, hp]
  have hB3 := hB2.grown b3 hB2.size (fun j hj => by cases hj; exact Nat.le_refl _)
  refine xunit_put _ g4 _ _ _ e4 w.heap.size 100 86400 hev o3' (by decide) rfl rfl (by decide) (by decide) fun w4 o4' b4 => ?_
  rw [d4, hp]
  have hB4 := hB3.grown b4 hB3.size (fun j hj => by cases hj; exact Nat.le_refl _)
  refine xunit_put _ g5 _ _ _ e5 w.heap.size 119 604800 hev o4' (by decide) rfl rfl (by decide) (by decide) fun w5 o5' b5 => ?_
  rw [d5, hp]
  have hB5 := hB4.grown b5 hB4.size (fun j hj => by cases hj; exact Nat.le_refl _)
  exact h w5 hB5 ⟨o5'⟩
theorem xunit_at (k c : Int) (h : xunitD.atKey (.int .u8 k) (.lit (.int .i64 0)) = .lit (.int .i64 c)) : xunit.f k = some c := by
  have e : xunitD = .map [(.int .u8 100, .lit (.int .i64 86400)), (.int .u8 104, .lit (.int .i64 3600)), (.int .u8 109, .lit (.int .i64 60)), (.int .u8 115, .lit (.int .i64 1)), (.int .u8 119, .lit (.int .i64 604800))] := rfl
  rw [e] at h
  have e1 : ∀ n : Int, (Lit.int .u8 n).sameKey (Lit.int .u8 k) = decide (k = n) := fun n => decide_eq_decide.mpr ⟨fun h => h.2.symm, fun h => ⟨rfl, h.symm⟩⟩
  simp only [DataW.atKey, List.find?, e1] at h
  unfold xunit.f
  by_cases h1 : k = 100
  · subst h1; cases h; rfl
  by_cases h2 : k = 104
  · subst h2; cases h; rfl
  by_cases h3 : k = 109
  · subst h3; cases h; rfl
  by_cases h4 : k = 115
  · subst h4; cases h; rfl
  by_cases h5 : k = 119
  · subst h5; cases h; rfl
  rw [decide_eq_false h1, decide_eq_false h2, decide_eq_false h3, decide_eq_false h4, decide_eq_false h5] at h
  cases h
  rw [if_neg h4, if_neg h3, if_neg h2, if_neg h1, if_neg h5]
open Go.Maps in
theorem xunit_run {w : World} {b : Nat} {k c : Int} (hown : Aside0 (w.ownsMap Try.prog 5 (plainElem Try.prog 2) b 5 xunitD)) (h : xunit.f k = some c) (hw : (Lit.int .u8 k).wf = true) :
    (Instr.lookup 51 (.map (some b)) (.int .u8 k) false).run Try.prog w = .ok (.int .i64 c) w := by
  obtain ⟨c', hrun, hat, _⟩ := hown.out.lookup_int (int_keyed Try.underlying5) Try.underlying51 Try.underlying2 (by kernel_rfl) (keyOf_int_mk Try.underlying5 hw)
  have := xunit_at k c' hat
  rw [this] at h
  cases h
  exact hrun
/-- Passes where the next operation makes a map: so that the arm is tried there alone. -/
theorem xgate {P : Program} {ops : Array Oper} {rest : List Oper} {o : Oper} {a : Act} {w : World} {Q : Exit → Act → World → Prop} {t : TypeId} {h : Option Operand} (_ : o.op = .makeMap t h) (H : wpList P ops Q (o :: rest) a w) : wpList P ops Q (o :: rest) a w := H
/-! ### impl_ReadTTL: function 11 -/
mutual
def impl_ReadTTL.l0 : Nat → ByteArray → Int → Int → Option (Int × Int)
  | 0, _, _, _ => none
  | k + 1, x0, x4, x5 => if x5 < (x0.size : Int) then (impl_ReadTTL.l1 k x0 x4 x5 x5) else (if x5 = 0 then (some (0, 18)) else (if x4 > 2147483647 then (some (0, 18)) else (some (x4, 0))))
def impl_ReadTTL.j2 : Nat → ByteArray → Int → Int → Int → Option (Int × Int)
  | 0, _, _, _, _ => none
  | k + 1, x0, x4, x5, x6 => if 0 ≤ x5 then (if x5 ≤ x6 then (if x6 ≤ (x0.size : Int) then ((impl_decimal.f k (x0.extract (x5 : Int).toNat (x6 : Int).toNat) 10).bind fun t102 => (if t102 < 0 then (impl_ReadTTL.j3 k x0 x4 x6 t102 true) else (impl_ReadTTL.j3 k x0 x4 x6 t102 (x6 == (x0.size : Int))))) else (none)) else (none)) else (none)
def impl_ReadTTL.j3 : Nat → ByteArray → Int → Int → Int → Bool → Option (Int × Int)
  | 0, _, _, _, _, _ => none
  | k + 1, x0, x4, x6, x7, x51 => if x51 = true then (some (0, 18)) else (if 0 ≤ x6 then (if x6 < (x0.size : Int) then ((xunit.f (Go.bits .or .u8 (bt x0 x6) 32)).bind fun t103 => (if t103 = 0 then (some (0, 18)) else (if (bt x0 x6) < 65 then (some (0, 18)) else (impl_ReadTTL.l0 k x0 (wrap64 (x4 + (wrap64 (x7 * t103)))) (wrap64 (x6 + 1)))))) else (none)) else (none))
def impl_ReadTTL.l1 : Nat → ByteArray → Int → Int → Int → Option (Int × Int)
  | 0, _, _, _, _ => none
  | k + 1, x0, x4, x5, x6 => if x6 < (x0.size : Int) then (if 0 ≤ x6 then (if (bt x0 x6) ≥ 48 then (if (bt x0 x6) ≤ 57 then (impl_ReadTTL.l1 k x0 x4 x5 (wrap64 (x6 + 1))) else (impl_ReadTTL.j2 k x0 x4 x5 x6)) else (impl_ReadTTL.j2 k x0 x4 x5 x6)) else (none)) else (impl_ReadTTL.j2 k x0 x4 x5 x6)
end
def impl_ReadTTL.f (k : Nat) (a0 : ByteArray) : Option (Int × Int) := if (a0.size : Int) > 60 then (some (0, 18)) else ((impl_decimal.f k a0 10).bind fun t101 => (if t101 < 0 then (impl_ReadTTL.l0 k a0 0 0) else (if t101 > 2147483647 then (some (0, 18)) else (some (t101, 0)))))
theorem impl_ReadTTL.mono_l : ∀ k, (∀ y0 y1 y2, LeO (impl_ReadTTL.l0 k y0 y1 y2) (impl_ReadTTL.l0 (k + 1) y0 y1 y2)) ∧ (∀ y0 y1 y2 y3, LeO (impl_ReadTTL.j2 k y0 y1 y2 y3) (impl_ReadTTL.j2 (k + 1) y0 y1 y2 y3)) ∧ (∀ y0 y1 y2 y3 y4, LeO (impl_ReadTTL.j3 k y0 y1 y2 y3 y4) (impl_ReadTTL.j3 (k + 1) y0 y1 y2 y3 y4)) ∧ (∀ y0 y1 y2 y3, LeO (impl_ReadTTL.l1 k y0 y1 y2 y3) (impl_ReadTTL.l1 (k + 1) y0 y1 y2 y3))
  | 0 => ⟨fun _ _ _ r h => by simp [impl_ReadTTL.l0] at h, fun _ _ _ _ r h => by simp [impl_ReadTTL.j2] at h, fun _ _ _ _ _ r h => by simp [impl_ReadTTL.j3] at h, fun _ _ _ _ r h => by simp [impl_ReadTTL.l1] at h⟩
  | k + 1 => by
    obtain ⟨ih0, ih1, ih2, ih3⟩ := impl_ReadTTL.mono_l k
    refine ⟨?_, ?_, ?_, ?_⟩
    · intro y0 y1 y2
      unfold impl_ReadTTL.l0
      repeat' first
      | (with_reducible exact ih0 _ _ _)
      | (with_reducible exact ih1 _ _ _ _)
      | (with_reducible exact ih2 _ _ _ _ _)
      | (with_reducible exact ih3 _ _ _ _)
      | (with_reducible exact impl_decimal.mono _ _ _)
      | (with_reducible exact LeO.refl _)
      | (with_reducible exact LeO.none _)
      | (with_reducible refine LeO.ite ?_ ?_)
      | (with_reducible refine LeO.bind ?_ (fun _ => ?_))
      | exact ih0 _ _ _
      | exact ih1 _ _ _ _
      | exact ih2 _ _ _ _ _
      | exact ih3 _ _ _ _
      | exact impl_decimal.mono _ _ _
      | exact LeO.none _
      | refine LeO.ite ?_ ?_
      | refine LeO.bind ?_ (fun _ => ?_)
    · intro y0 y1 y2 y3
      unfold impl_ReadTTL.j2
      repeat' first
      | (with_reducible exact ih0 _ _ _)
      | (with_reducible exact ih1 _ _ _ _)
      | (with_reducible exact ih2 _ _ _ _ _)
      | (with_reducible exact ih3 _ _ _ _)
      | (with_reducible exact impl_decimal.mono _ _ _)
      | (with_reducible exact LeO.refl _)
      | (with_reducible exact LeO.none _)
      | (with_reducible refine LeO.ite ?_ ?_)
      | (with_reducible refine LeO.bind ?_ (fun _ => ?_))
      | exact ih0 _ _ _
      | exact ih1 _ _ _ _
      | exact ih2 _ _ _ _ _
      | exact ih3 _ _ _ _
      | exact impl_decimal.mono _ _ _
      | exact LeO.none _
      | refine LeO.ite ?_ ?_
      | refine LeO.bind ?_ (fun _ => ?_)
    · intro y0 y1 y2 y3 y4
      unfold impl_ReadTTL.j3
      repeat' first
      | (with_reducible exact ih0 _ _ _)
      | (with_reducible exact ih1 _ _ _ _)
      | (with_reducible exact ih2 _ _ _ _ _)
      | (with_reducible exact ih3 _ _ _ _)
      | (with_reducible exact impl_decimal.mono _ _ _)
      | (with_reducible exact LeO.refl _)
      | (with_reducible exact LeO.none _)
      | (with_reducible refine LeO.ite ?_ ?_)
      | (with_reducible refine LeO.bind ?_ (fun _ => ?_))
      | exact ih0 _ _ _
      | exact ih1 _ _ _ _
      | exact ih2 _ _ _ _ _
      | exact ih3 _ _ _ _
      | exact impl_decimal.mono _ _ _
      | exact LeO.none _
      | refine LeO.ite ?_ ?_
      | refine LeO.bind ?_ (fun _ => ?_)
    · intro y0 y1 y2 y3
      unfold impl_ReadTTL.l1
      repeat' first
      | (with_reducible exact ih0 _ _ _)
      | (with_reducible exact ih1 _ _ _ _)
      | (with_reducible exact ih2 _ _ _ _ _)
      | (with_reducible exact ih3 _ _ _ _)
      | (with_reducible exact impl_decimal.mono _ _ _)
      | (with_reducible exact LeO.refl _)
      | (with_reducible exact LeO.none _)
      | (with_reducible refine LeO.ite ?_ ?_)
      | (with_reducible refine LeO.bind ?_ (fun _ => ?_))
      | exact ih0 _ _ _
      | exact ih1 _ _ _ _
      | exact ih2 _ _ _ _ _
      | exact ih3 _ _ _ _
      | exact impl_decimal.mono _ _ _
      | exact LeO.none _
      | refine LeO.ite ?_ ?_
      | refine LeO.bind ?_ (fun _ => ?_)
theorem impl_ReadTTL.mono : ∀ a0 k, LeO (impl_ReadTTL.f k a0) (impl_ReadTTL.f (k + 1) a0) := by
  intro a0 k
  obtain ⟨ih0, ih1, ih2, ih3⟩ := impl_ReadTTL.mono_l k
  unfold impl_ReadTTL.f
  repeat' first
      | (with_reducible exact ih0 _ _ _)
      | (with_reducible exact ih1 _ _ _ _)
      | (with_reducible exact ih2 _ _ _ _ _)
      | (with_reducible exact ih3 _ _ _ _)
      | (with_reducible exact impl_decimal.mono _ _ _)
      | (with_reducible exact LeO.refl _)
      | (with_reducible exact LeO.none _)
      | (with_reducible refine LeO.ite ?_ ?_)
      | (with_reducible refine LeO.bind ?_ (fun _ => ?_))
      | exact ih0 _ _ _
      | exact ih1 _ _ _ _
      | exact ih2 _ _ _ _ _
      | exact ih3 _ _ _ _
      | exact impl_decimal.mono _ _ _
      | exact LeO.none _
      | refine LeO.ite ?_ ?_
      | refine LeO.bind ?_ (fun _ => ?_)
set_option maxHeartbeats 8000000 in
set_option maxRecDepth 100000 in
theorem impl_ReadTTL.calls (k : Nat) (a0 : ByteArray) (r1 : Int) (r2 : Int) (w : World) (h : impl_ReadTTL.f k a0 = some (r1, r2)) :
    Calls Try.prog 11 #[.string a0] w fun e w' => e = .returned (.tuple #[.int .i64 r1, .int .i64 r2]) ∧ Below w.heap.size w w' := by
  have HB := Aside0.mk (Below.refl w.heap.size w)
  have H : (if (a0.size : Int) > 60 then (some (0, 18)) else ((impl_decimal.f k a0 10).bind fun t101 => (if t101 < 0 then (impl_ReadTTL.l0 k a0 0 0) else (if t101 > 2147483647 then (some (0, 18)) else (some (t101, 0)))))) = some (r1, r2) := h
  clear h
  by_cases c2 : (a0.size : Int) > 60
  · rw [if_pos c2] at H
    have c2b0 : decide (60 < (a0.size : Int)) = true := decide_eq_true c2
    have c2b1 : decide (60 < a0.size) = true := decide_eq_true (by omega)
    clear c2
    simp only [Option.some.injEq, Prod.mk.injEq] at H
    obtain ⟨rfl, rfl⟩ := H
    go_enter Try.func11, Try.ntmps11
    go_wp2
    go_ret2
    exact ⟨by first | rfl | (simp [errW_none, errW_some] <;> rfl) | (simp [*, errW_none, errW_some] <;> rfl), by repeat (first | (with_reducible first | exact HB.out | apply below_alloc | apply pw_below_drewN | apply below_drew1) | exact HB.out)⟩
  · rw [if_neg c2] at H
    have c2b0 : decide (60 < (a0.size : Int)) = false := decide_eq_false c2
    have c2b1 : decide (60 < a0.size) = false := decide_eq_false (by omega)
    clear c2
    replace H := Option.bind_eq_some_iff.mp H
    obtain ⟨t101, A30, H⟩ := H
    replace H : (if t101 < 0 then (impl_ReadTTL.l0 k a0 0 0) else (if t101 > 2147483647 then (some (0, 18)) else (some (t101, 0)))) = some (r1, r2) := H
    have A3 := Aside0.mk A30
    clear A30
    by_cases c4 : t101 < 0
    · rw [if_pos c4] at H
      have c4b0 : decide (t101 < 0) = true := decide_eq_true c4
      clear c4
      have H' := Aside0.mk H
      clear H
      go_enter Try.func11, Try.ntmps11
      go_wp2_with (first | ((with_reducible refine gate_callee (f := 33) rfl ?_); refine goesL_ (some 13) rfl rfl Try.func33 (by kernel_rfl) rfl #[.string a0, .int .i64 10] rfl (by (try simp only [List.map_toArray, List.map_cons, List.map_nil]); first | done | rfl | (simp only [List.length_drop, List.length_take]; rfl)) ?_; (with_reducible refine (impl_decimal.calls k a0 10 t101 _ A3.out).mono ?_); rintro e w' ⟨rfl, ⟨nd, rfl⟩⟩; refine ⟨_, rfl, ?_⟩))
      go_loopg [4, 5] k (fun kq v4 v5 w' => ∃ (x4_1 : Int) (x5_1 : Int), v4 = .int .i64 x4_1 ∧ v5 = .int .i64 x5_1 ∧ Aside0 (impl_ReadTTL.l0 kq a0 x4_1 x5_1 = some (r1, r2)) ∧ Aside0 (kq ≤ k) ∧ Aside0 (Below w.heap.size w w'))
      case atStart => exact ⟨(0), (0), (by first | rfl | (simp; done) | (simp [*]; done)), (by first | rfl | (simp; done) | (simp [*]; done)), H', ⟨Nat.le_refl _⟩, ⟨by repeat (first | (with_reducible first | exact HB.out | apply below_alloc | apply pw_below_drewN | apply below_drew1) | exact HB.out)⟩⟩
      case round =>
        clear H'
        try clear c1
        try clear c2
        try clear c2b0
        try clear c2b1
        try clear p2
        try clear c3
        try clear c4
        try clear c4b0
        obtain ⟨x4_1, x5_1, rfl, rfl, HA, HK1, HB⟩ := hrel
        cases gk with
        | zero => exact absurd HA.out (by simp [impl_ReadTTL.l0])
        | succ k1 =>
          have H := HA.out
          clear HA
          simp only [impl_ReadTTL.l0] at H
          by_cases c5 : x5_1 < (a0.size : Int)
          · rw [if_pos c5] at H
            have c5b0 : decide (x5_1 < (a0.size : Int)) = true := decide_eq_true c5
            clear c5
            have HC6 := Aside0.mk H
            clear H
            go_upto_block 2 with (fail)
            go_cut [6] (fun v6 wc => ∃ (kq : Nat) (x6_5 : Int), v6 = .int .i64 x6_5 ∧ Aside0 (impl_ReadTTL.j2 kq a0 x4_1 x5_1 x6_5 = some (r1, r2)) ∧ Aside0 (kq ≤ k1) ∧ Aside0 (Below w.heap.size w wc))
            case first =>
              have H := HC6.out
              clear HC6
              have H' := Aside0.mk H
              clear H
              go_wp2
              go_loopg [6] k1 (fun kq v6 w' => ∃ (x6_2 : Int), v6 = .int .i64 x6_2 ∧ Aside0 (impl_ReadTTL.l1 kq a0 x4_1 x5_1 x6_2 = some (r1, r2)) ∧ Aside0 (kq ≤ k1) ∧ Aside0 (Below w.heap.size w w'))
              case atStart => exact ⟨(x5_1), (by first | rfl | (simp; done) | (simp [*]; done)), H', ⟨Nat.le_refl _⟩, ⟨by repeat (first | (with_reducible first | exact HB.out | apply below_alloc | apply pw_below_drewN | apply below_drew1) | exact HB.out)⟩⟩
              case round =>
                clear H'
                try clear c1
                try clear c2
                try clear c2b0
                try clear c2b1
                try clear p2
                try clear c3
                try clear c4
                try clear c4b0
                try clear c5
                try clear c5b0
                try clear p2
                obtain ⟨x6_2, rfl, HA, HK2, HB⟩ := hrel
                cases gk with
                | zero => exact absurd HA.out (by simp [impl_ReadTTL.l1])
                | succ k2 =>
                  have H := HA.out
                  clear HA
                  simp only [impl_ReadTTL.l1] at H
                  by_cases c7 : x6_2 < (a0.size : Int)
                  · rw [if_pos c7] at H
                    have c7b0 : decide (x6_2 < (a0.size : Int)) = true := decide_eq_true c7
                    clear c7
                    (first | rw [c7b0] | (simp only [i64_w, i32_w]; rw [c7b0]) | skip)
                    by_cases c8 : 0 ≤ x6_2
                    · rw [if_pos c8] at H
                      have c8b0 : decide (0 ≤ x6_2) = true := decide_eq_true c8
                      clear c8
                      by_cases c10 : (bt a0 x6_2) ≥ 48
                      · rw [if_pos c10] at H
                        have c10b0 : decide (48 ≤ (bt a0 x6_2)) = true := decide_eq_true c10
                        clear c10
                        by_cases c12 : (bt a0 x6_2) ≤ 57
                        · rw [if_pos c12] at H
                          have c12b0 : decide ((bt a0 x6_2) ≤ 57) = true := decide_eq_true c12
                          clear c12
                          have H' := Aside0.mk H
                          clear H
                          have p9 : 0 ≤ (x6_2 : Int) := of_decide_eq_true (by first | (with_reducible assumption) | assumption)
                          have q9 : x6_2 < (a0.size : Int) := of_decide_eq_true (by first | (with_reducible assumption) | assumption)
                          have hx9 := bt_at a0 x6_2
                          replace p9 := eq_true p9
                          replace q9 := eq_true q9
                          have p11 : 0 ≤ (x6_2 : Int) := of_decide_eq_true (by first | (with_reducible assumption) | assumption)
                          have q11 : x6_2 < (a0.size : Int) := of_decide_eq_true (by first | (with_reducible assumption) | assumption)
                          have hx11 := bt_at a0 x6_2
                          replace p11 := eq_true p11
                          replace q11 := eq_true q11
                          go_wp2
                          go_roundg k2
                          case measure => have := HK1.out; have := HK2.out; omega
                          case rel => exact ⟨(wrap64 (x6_2 + 1)), (by first | rfl | (simp; done) | (simp [*]; done)), H', ⟨by have := HK1.out; have := HK2.out; omega⟩, ⟨by repeat (first | (with_reducible first | exact HB.out | apply below_alloc | apply pw_below_drewN | apply below_drew1) | exact HB.out)⟩⟩
                        · rw [if_neg c12] at H
                          have c12b0 : decide ((bt a0 x6_2) ≤ 57) = false := decide_eq_false c12
                          clear c12
                          have H' := Aside0.mk H
                          clear H
                          have p9 : 0 ≤ (x6_2 : Int) := of_decide_eq_true (by first | (with_reducible assumption) | assumption)
                          have q9 : x6_2 < (a0.size : Int) := of_decide_eq_true (by first | (with_reducible assumption) | assumption)
                          have hx9 := bt_at a0 x6_2
                          replace p9 := eq_true p9
                          replace q9 := eq_true q9
                          have p11 : 0 ≤ (x6_2 : Int) := of_decide_eq_true (by first | (with_reducible assumption) | assumption)
                          have q11 : x6_2 < (a0.size : Int) := of_decide_eq_true (by first | (with_reducible assumption) | assumption)
                          have hx11 := bt_at a0 x6_2
                          replace p11 := eq_true p11
                          replace q11 := eq_true q11
                          go_wp2
                          go_meet
                          case rel => exact ⟨_, (x6_2), (by first | rfl | (simp; done) | (simp [*]; done)), H', ⟨by have := HK1.out; have := HK2.out; first | omega | exact Nat.le_refl _⟩, ⟨by repeat (first | (with_reducible first | exact HB.out | apply below_alloc | apply pw_below_drewN | apply below_drew1) | exact HB.out)⟩⟩
                      · rw [if_neg c10] at H
                        have c10b0 : decide (48 ≤ (bt a0 x6_2)) = false := decide_eq_false c10
                        clear c10
                        have H' := Aside0.mk H
                        clear H
                        have p9 : 0 ≤ (x6_2 : Int) := of_decide_eq_true (by first | (with_reducible assumption) | assumption)
                        have q9 : x6_2 < (a0.size : Int) := of_decide_eq_true (by first | (with_reducible assumption) | assumption)
                        have hx9 := bt_at a0 x6_2
                        replace p9 := eq_true p9
                        replace q9 := eq_true q9
                        go_wp2
                        go_meet
                        case rel => exact ⟨_, (x6_2), (by first | rfl | (simp; done) | (simp [*]; done)), H', ⟨by have := HK1.out; have := HK2.out; first | omega | exact Nat.le_refl _⟩, ⟨by repeat (first | (with_reducible first | exact HB.out | apply below_alloc | apply pw_below_drewN | apply below_drew1) | exact HB.out)⟩⟩
                    · rw [if_neg c8] at H
                      exact absurd H (by simp)
                  · rw [if_neg c7] at H
                    have c7b0 : decide (x6_2 < (a0.size : Int)) = false := decide_eq_false c7
                    clear c7
                    (first | rw [c7b0] | (simp only [i64_w, i32_w]; rw [c7b0]) | skip)
                    have H' := Aside0.mk H
                    clear H
                    go_wp2
                    go_meet
                    case rel => exact ⟨_, (x6_2), (by first | rfl | (simp; done) | (simp [*]; done)), H', ⟨by have := HK1.out; have := HK2.out; first | omega | exact Nat.le_refl _⟩, ⟨by repeat (first | (with_reducible first | exact HB.out | apply below_alloc | apply pw_below_drewN | apply below_drew1) | exact HB.out)⟩⟩
            case rest =>
              clear HC6
              try clear c1
              try clear p1
              try clear q1
              try clear hx1
              try clear c2
              try clear c2b0
              try clear c2b1
              try clear p2
              try clear c3
              try clear c4
              try clear c4b0
              try clear c5
              try clear c5b0
              try clear p6
              try clear c7
              try clear c7b0
              try clear c8
              try clear c8b0
              try clear p9
              try clear q9
              try clear hx9
              try clear c10
              try clear c10b0
              try clear c11
              try clear p11
              try clear q11
              try clear hx11
              try clear c12
              try clear c12b0
              try clear p11
              try clear p2
              try clear p9
              try clear q11
              try clear q9
              obtain ⟨kq, x6_5, rfl, HA, HJ5, HB⟩ := hcut
              cases kq with
              | zero => exact absurd HA.out (by simp [impl_ReadTTL.j2])
              | succ kj5 =>
                have H := HA.out
                clear HA
                simp only [impl_ReadTTL.j2] at H
                by_cases c13 : 0 ≤ x5_1
                · rw [if_pos c13] at H
                  have c13b0 := eq_true c13
                  have c13b1 : decide (0 ≤ x5_1) = true := decide_eq_true c13
                  clear c13
                  by_cases c14 : x5_1 ≤ x6_5
                  · rw [if_pos c14] at H
                    have c14b0 := eq_true c14
                    have c14b1 : decide (x5_1 ≤ x6_5) = true := decide_eq_true c14
                    clear c14
                    by_cases c15 : x6_5 ≤ (a0.size : Int)
                    · rw [if_pos c15] at H
                      have c15b0 := eq_true c15
                      have c15b1 : decide (x6_5 ≤ (a0.size : Int)) = true := decide_eq_true c15
                      clear c15
                      replace H := Option.bind_eq_some_iff.mp H
                      obtain ⟨t102, A160, H⟩ := H
                      replace H : (if t102 < 0 then (impl_ReadTTL.j3 kj5 a0 x4_1 x6_5 t102 true) else (impl_ReadTTL.j3 kj5 a0 x4_1 x6_5 t102 (x6_5 == (a0.size : Int)))) = some (r1, r2) := H
                      have A16 := Aside0.mk A160
                      clear A160
                      have HC17 := Aside0.mk H
                      clear H
                      go_upto_region 12 with (first | ((with_reducible refine gate_callee (f := 33) rfl ?_); refine goesL_ (some 43) rfl rfl Try.func33 (by kernel_rfl) rfl #[.string (a0.extract (x5_1 : Int).toNat (x6_5 : Int).toNat), .int .i64 10] rfl (by (try simp only [List.map_toArray, List.map_cons, List.map_nil]); first | done | rfl | (simp only [List.length_drop, List.length_take]; rfl)) ?_; (with_reducible refine (impl_decimal.calls kj5 (a0.extract (x5_1 : Int).toNat (x6_5 : Int).toNat) 10 t102 _ A16.out).mono ?_); rintro e w' ⟨rfl, ⟨nd, rfl⟩⟩; refine ⟨_, rfl, ?_⟩))
                      (try simp only [Act.put, List.setIfInBounds_toArray, List.set_cons_zero, List.set_cons_succ])
                      go_cut [51] (fun v51 wc => ∃ (kq : Nat) (x51_16 : Bool), v51 = .bool x51_16 ∧ Aside0 (impl_ReadTTL.j3 kq a0 x4_1 x6_5 t102 x51_16 = some (r1, r2)) ∧ Aside0 (kq ≤ kj5) ∧ Aside0 (Below w.heap.size w wc))
                      case first =>
                        have H := HC17.out
                        clear HC17
                        by_cases c18 : t102 < 0
                        · rw [if_pos c18] at H
                          have c18b0 : decide (t102 < 0) = true := decide_eq_true c18
                          clear c18
                          (first | rw [c18b0] | (simp only [i64_w, i32_w]; rw [c18b0]) | skip)
                          have H' := Aside0.mk H
                          clear H
                          go_wp2
                          go_meet
                          case rel => exact ⟨_, (true), (by first | rfl | (simp; done) | (simp [*]; done)), H', ⟨by have := HK1.out; have := HJ5.out; first | omega | exact Nat.le_refl _⟩, ⟨by repeat (first | (with_reducible first | exact HB.out | apply below_alloc | apply pw_below_drewN | apply below_drew1) | exact HB.out)⟩⟩
                        · rw [if_neg c18] at H
                          have c18b0 : decide (t102 < 0) = false := decide_eq_false c18
                          clear c18
                          (first | rw [c18b0] | (simp only [i64_w, i32_w]; rw [c18b0]) | skip)
                          have H' := Aside0.mk H
                          clear H
                          go_wp2
                          go_meet
                          case rel => exact ⟨_, ((x6_5 == (a0.size : Int))), (by first | rfl | (simp; done) | (simp [*]; done)), H', ⟨by have := HK1.out; have := HJ5.out; first | omega | exact Nat.le_refl _⟩, ⟨by repeat (first | (with_reducible first | exact HB.out | apply below_alloc | apply pw_below_drewN | apply below_drew1) | exact HB.out)⟩⟩
                      case rest =>
                        clear HC17
                        try clear c1
                        try clear p1
                        try clear q1
                        try clear hx1
                        try clear c2
                        try clear c2b0
                        try clear c2b1
                        try clear p2
                        try clear c3
                        try clear c4
                        try clear c4b0
                        try clear c5
                        try clear c5b0
                        try clear p6
                        try clear c7
                        try clear c7b0
                        try clear c8
                        try clear c8b0
                        try clear p9
                        try clear q9
                        try clear hx9
                        try clear c10
                        try clear c10b0
                        try clear c11
                        try clear p11
                        try clear q11
                        try clear hx11
                        try clear c12
                        try clear c12b0
                        try clear c13
                        try clear c13b0
                        try clear c13b1
                        try clear c14
                        try clear c14b0
                        try clear c14b1
                        try clear c15
                        try clear c15b0
                        try clear c15b1
                        try clear c18
                        try clear c18b0
                        try clear p1
                        try clear p11
                        try clear p2
                        try clear p6
                        try clear p9
                        try clear q1
                        try clear q11
                        try clear q9
                        obtain ⟨kq, x51_16, rfl, HA, HJ16, HB⟩ := hcut
                        cases kq with
                        | zero => exact absurd HA.out (by simp [impl_ReadTTL.j3])
                        | succ kj16 =>
                          have H := HA.out
                          clear HA
                          simp only [impl_ReadTTL.j3] at H
                          by_cases c19 : x51_16 = true
                          · subst c19
                            have H1 : (some (0, 18)) = some (r1, r2) := by rw [if_pos rfl] at H; exact H
                            clear H
                            have H := H1
                            clear H1
                            simp only [Option.some.injEq, Prod.mk.injEq] at H
                            obtain ⟨rfl, rfl⟩ := H
                            go_wp2
                            go_ret2
                            exact ⟨by first | rfl | (simp [errW_none, errW_some] <;> rfl) | (simp [*, errW_none, errW_some] <;> rfl), by repeat (first | (with_reducible first | exact HB.out | apply below_alloc | apply pw_below_drewN | apply below_drew1) | exact HB.out)⟩
                          · replace c19 := Bool.eq_false_iff.mpr c19
                            subst c19
                            have H1 : (if 0 ≤ x6_5 then (if x6_5 < (a0.size : Int) then ((xunit.f (Go.bits .or .u8 (bt a0 x6_5) 32)).bind fun t103 => (if t103 = 0 then (some (0, 18)) else (if (bt a0 x6_5) < 65 then (some (0, 18)) else (impl_ReadTTL.l0 kj16 a0 (wrap64 (x4_1 + (wrap64 (t102 * t103)))) (wrap64 (x6_5 + 1)))))) else (none)) else (none)) = some (r1, r2) := by rw [if_neg (show ¬ (false = true) by decide)] at H; exact H
                            clear H
                            have H := H1
                            clear H1
                            by_cases c20 : 0 ≤ x6_5
                            · rw [if_pos c20] at H
                              have c20b0 : decide (0 ≤ x6_5) = true := decide_eq_true c20
                              clear c20
                              by_cases c21 : x6_5 < (a0.size : Int)
                              · rw [if_pos c21] at H
                                have c21b0 : decide (x6_5 < (a0.size : Int)) = true := decide_eq_true c21
                                clear c21
                                replace H := Option.bind_eq_some_iff.mp H
                                obtain ⟨t103, A230, H⟩ := H
                                replace H : (if t103 = 0 then (some (0, 18)) else (if (bt a0 x6_5) < 65 then (some (0, 18)) else (impl_ReadTTL.l0 kj16 a0 (wrap64 (x4_1 + (wrap64 (t102 * t103)))) (wrap64 (x6_5 + 1))))) = some (r1, r2) := H
                                have A23 := Aside0.mk A230
                                clear A230
                                by_cases c24 : t103 = 0
                                · rw [if_pos c24] at H
                                  have c24b0 : (t103 == 0) = true := beq_iff_eq.mpr c24
                                  have c24b1 : (t103 != 0) = false := bne_eq_false_iff_eq.mpr c24
                                  clear c24
                                  simp only [Option.some.injEq, Prod.mk.injEq] at H
                                  obtain ⟨rfl, rfl⟩ := H
                                  have p22 : 0 ≤ (x6_5 : Int) := of_decide_eq_true (by first | (with_reducible assumption) | assumption)
                                  have q22 : x6_5 < (a0.size : Int) := of_decide_eq_true (by first | (with_reducible assumption) | assumption)
                                  have hx22 := bt_at a0 x6_5
                                  replace p22 := eq_true p22
                                  replace q22 := eq_true q22
                                  go_wp2_with (first | ((with_reducible refine xgate rfl ?_); refine xunit_lay 52 rfl rfl rfl (of_decide_eq_true rfl) rfl rfl rfl rfl rfl rfl rfl rfl rfl rfl rfl rfl rfl rfl rfl ?_; intro w25 hb HOWN; have hrun := xunit_run HOWN A23.out (wf_bits _ _ _ _); clear HOWN; have n0_ := Aside0.mk (below_step (by repeat (first | (with_reducible first | exact HB.out | apply below_alloc | apply pw_below_drewN | apply below_drew1) | exact HB.out)) hb); clear HB; have HB := n0_; clear n0_; (try clear hb); (try clear hb2); (try clear hk); (try clear hi)))
                                  go_ret2
                                  exact ⟨by first | rfl | (simp [errW_none, errW_some] <;> rfl) | (simp [*, errW_none, errW_some] <;> rfl), by repeat (first | (with_reducible first | exact HB.out | apply below_alloc | apply pw_below_drewN | apply below_drew1) | exact HB.out)⟩
                                · rw [if_neg c24] at H
                                  have c24b0 : (t103 == 0) = false := beq_eq_false_iff_ne.mpr c24
                                  have c24b1 : (t103 != 0) = true := bne_iff_ne.mpr c24
                                  by_cases c27 : (bt a0 x6_5) < 65
                                  · rw [if_pos c27] at H
                                    have c27b0 : decide ((bt a0 x6_5) < 65) = true := decide_eq_true c27
                                    clear c27
                                    simp only [Option.some.injEq, Prod.mk.injEq] at H
                                    obtain ⟨rfl, rfl⟩ := H
                                    have p22 : 0 ≤ (x6_5 : Int) := of_decide_eq_true (by first | (with_reducible assumption) | assumption)
                                    have q22 : x6_5 < (a0.size : Int) := of_decide_eq_true (by first | (with_reducible assumption) | assumption)
                                    have hx22 := bt_at a0 x6_5
                                    replace p22 := eq_true p22
                                    replace q22 := eq_true q22
                                    go_wp2_with (first | ((with_reducible refine xgate rfl ?_); refine xunit_lay 52 rfl rfl rfl (of_decide_eq_true rfl) rfl rfl rfl rfl rfl rfl rfl rfl rfl rfl rfl rfl rfl rfl rfl ?_; intro w28 hb HOWN; have hrun := xunit_run HOWN A23.out (wf_bits _ _ _ _); clear HOWN; have n0_ := Aside0.mk (below_step (by repeat (first | (with_reducible first | exact HB.out | apply below_alloc | apply pw_below_drewN | apply below_drew1) | exact HB.out)) hb); clear HB; have HB := n0_; clear n0_; (try clear hb); (try clear hb2); (try clear hk); (try clear hi); have p26 : 0 ≤ (x6_5 : Int) := of_decide_eq_true (by first | (with_reducible assumption) | assumption); have q26 : x6_5 < (a0.size : Int) := of_decide_eq_true (by first | (with_reducible assumption) | assumption); have hx26 := bt_at a0 x6_5; replace p26 := eq_true p26; replace q26 := eq_true q26))
                                    go_ret2
                                    exact ⟨by first | rfl | (simp [errW_none, errW_some] <;> rfl) | (simp [*, errW_none, errW_some] <;> rfl), by repeat (first | (with_reducible first | exact HB.out | apply below_alloc | apply pw_below_drewN | apply below_drew1) | exact HB.out)⟩
                                  · rw [if_neg c27] at H
                                    have c27b0 : decide ((bt a0 x6_5) < 65) = false := decide_eq_false c27
                                    clear c27
                                    have H' := Aside0.mk H
                                    clear H
                                    have p22 : 0 ≤ (x6_5 : Int) := of_decide_eq_true (by first | (with_reducible assumption) | assumption)
                                    have q22 : x6_5 < (a0.size : Int) := of_decide_eq_true (by first | (with_reducible assumption) | assumption)
                                    have hx22 := bt_at a0 x6_5
                                    replace p22 := eq_true p22
                                    replace q22 := eq_true q22
                                    go_wp2_with (first | ((with_reducible refine xgate rfl ?_); refine xunit_lay 52 rfl rfl rfl (of_decide_eq_true rfl) rfl rfl rfl rfl rfl rfl rfl rfl rfl rfl rfl rfl rfl rfl rfl ?_; intro w29 hb HOWN; have hrun := xunit_run HOWN A23.out (wf_bits _ _ _ _); clear HOWN; have n0_ := Aside0.mk (below_step (by repeat (first | (with_reducible first | exact HB.out | apply below_alloc | apply pw_below_drewN | apply below_drew1) | exact HB.out)) hb); clear HB; have HB := n0_; clear n0_; (try clear hb); (try clear hb2); (try clear hk); (try clear hi); have p26 : 0 ≤ (x6_5 : Int) := of_decide_eq_true (by first | (with_reducible assumption) | assumption); have q26 : x6_5 < (a0.size : Int) := of_decide_eq_true (by first | (with_reducible assumption) | assumption); have hx26 := bt_at a0 x6_5; replace p26 := eq_true p26; replace q26 := eq_true q26))
                                    go_roundg kj16
                                    case measure => have := HK1.out; have := HJ5.out; have := HJ16.out; omega
                                    case rel => exact ⟨(wrap64 (x4_1 + (wrap64 (t102 * t103)))), (wrap64 (x6_5 + 1)), (by first | rfl | (simp; done) | (simp [*]; done)), (by first | rfl | (simp; done) | (simp [*]; done)), H', ⟨by have := HK1.out; have := HJ5.out; have := HJ16.out; omega⟩, ⟨by repeat (first | (with_reducible first | exact HB.out | apply below_alloc | apply pw_below_drewN | apply below_drew1) | exact HB.out)⟩⟩
                              · rw [if_neg c21] at H
                                exact absurd H (by simp)
                            · rw [if_neg c20] at H
                              exact absurd H (by simp)
                    · rw [if_neg c15] at H
                      exact absurd H (by simp)
                  · rw [if_neg c14] at H
                    exact absurd H (by simp)
                · rw [if_neg c13] at H
                  exact absurd H (by simp)
          · rw [if_neg c5] at H
            have c5b0 : decide (x5_1 < (a0.size : Int)) = false := decide_eq_false c5
            clear c5
            by_cases c30 : x5_1 = 0
            · rw [if_pos c30] at H
              have c30b0 : (x5_1 == 0) = true := beq_iff_eq.mpr c30
              have c30b1 : (x5_1 != 0) = false := bne_eq_false_iff_eq.mpr c30
              clear c30
              simp only [Option.some.injEq, Prod.mk.injEq] at H
              obtain ⟨rfl, rfl⟩ := H
              go_wp2
              go_ret2
              exact ⟨by first | rfl | (simp [errW_none, errW_some] <;> rfl) | (simp [*, errW_none, errW_some] <;> rfl), by repeat (first | (with_reducible first | exact HB.out | apply below_alloc | apply pw_below_drewN | apply below_drew1) | exact HB.out)⟩
            · rw [if_neg c30] at H
              have c30b0 : (x5_1 == 0) = false := beq_eq_false_iff_ne.mpr c30
              have c30b1 : (x5_1 != 0) = true := bne_iff_ne.mpr c30
              by_cases c31 : x4_1 > 2147483647
              · rw [if_pos c31] at H
                have c31b0 : decide (2147483647 < x4_1) = true := decide_eq_true c31
                clear c31
                simp only [Option.some.injEq, Prod.mk.injEq] at H
                obtain ⟨rfl, rfl⟩ := H
                go_wp2
                go_ret2
                exact ⟨by first | rfl | (simp [errW_none, errW_some] <;> rfl) | (simp [*, errW_none, errW_some] <;> rfl), by repeat (first | (with_reducible first | exact HB.out | apply below_alloc | apply pw_below_drewN | apply below_drew1) | exact HB.out)⟩
              · rw [if_neg c31] at H
                have c31b0 : decide (2147483647 < x4_1) = false := decide_eq_false c31
                clear c31
                simp only [Option.some.injEq, Prod.mk.injEq] at H
                obtain ⟨rfl, rfl⟩ := H
                go_wp2
                go_ret2
                exact ⟨by first | rfl | (simp [errW_none, errW_some] <;> rfl) | (simp [*, errW_none, errW_some] <;> rfl), by repeat (first | (with_reducible first | exact HB.out | apply below_alloc | apply pw_below_drewN | apply below_drew1) | exact HB.out)⟩
    · rw [if_neg c4] at H
      have c4b0 : decide (t101 < 0) = false := decide_eq_false c4
      clear c4
      by_cases c32 : t101 > 2147483647
      · rw [if_pos c32] at H
        have c32b0 : decide (2147483647 < t101) = true := decide_eq_true c32
        clear c32
        simp only [Option.some.injEq, Prod.mk.injEq] at H
        obtain ⟨rfl, rfl⟩ := H
        go_enter Try.func11, Try.ntmps11
        go_wp2_with (first | ((with_reducible refine gate_callee (f := 33) rfl ?_); refine goesL_ (some 13) rfl rfl Try.func33 (by kernel_rfl) rfl #[.string a0, .int .i64 10] rfl (by (try simp only [List.map_toArray, List.map_cons, List.map_nil]); first | done | rfl | (simp only [List.length_drop, List.length_take]; rfl)) ?_; (with_reducible refine (impl_decimal.calls k a0 10 t101 _ A3.out).mono ?_); rintro e w' ⟨rfl, ⟨nd, rfl⟩⟩; refine ⟨_, rfl, ?_⟩))
        go_ret2
        exact ⟨by first | rfl | (simp [errW_none, errW_some] <;> rfl) | (simp [*, errW_none, errW_some] <;> rfl), by repeat (first | (with_reducible first | exact HB.out | apply below_alloc | apply pw_below_drewN | apply below_drew1) | exact HB.out)⟩
      · rw [if_neg c32] at H
        have c32b0 : decide (2147483647 < t101) = false := decide_eq_false c32
        clear c32
        simp only [Option.some.injEq, Prod.mk.injEq] at H
        obtain ⟨rfl, rfl⟩ := H
        go_enter Try.func11, Try.ntmps11
        go_wp2_with (first | ((with_reducible refine gate_callee (f := 33) rfl ?_); refine goesL_ (some 13) rfl rfl Try.func33 (by kernel_rfl) rfl #[.string a0, .int .i64 10] rfl (by (try simp only [List.map_toArray, List.map_cons, List.map_nil]); first | done | rfl | (simp only [List.length_drop, List.length_take]; rfl)) ?_; (with_reducible refine (impl_decimal.calls k a0 10 t101 _ A3.out).mono ?_); rintro e w' ⟨rfl, ⟨nd, rfl⟩⟩; refine ⟨_, rfl, ?_⟩))
        go_ret2
        exact ⟨by first | rfl | (simp [errW_none, errW_some] <;> rfl) | (simp [*, errW_none, errW_some] <;> rfl), by repeat (first | (with_reducible first | exact HB.out | apply below_alloc | apply pw_below_drewN | apply below_drew1) | exact HB.out)⟩

end Go.Proofs.Ytpbmnokmpihnjaa.F
