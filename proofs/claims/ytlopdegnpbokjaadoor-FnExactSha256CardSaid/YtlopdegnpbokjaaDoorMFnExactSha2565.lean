/- Part 5 of 7 of the proof of FnExactSha256: what each Go function on its way computes, that the Go code does just this, and what the law says of it. No condition beyond the statement's own. -/
import Derived.Shelf.Bin.BEAppendUint64
import Derived.Shelf.Bin.BEPutUint32
import Derived.Lib.LazyBuf
import Derived.Test.YtlopdegnpbokjaaDoorMFnExactSha2564
namespace Go.Proofs.YtlopdegnpbokjaaDoor.F
open Go Go.Shelf Go.RowKit Go.Proofs.YtlopdegnpbokjaaDoorW.PrintWords Go.Proofs.YtlopdegnpbokjaaDoorW.PrintLast Go.Proofs.YtlopdegnpbokjaaDoorW.PrintMore
attribute [local go_sem] max2_int min2_int max_two min_two max_three min_three max_four min_four   -- for this text's walks alone
set_option linter.unusedVariables false
set_option linter.unusedSimpArgs false

/-! ### laws_toByteS: function 8 -/
def laws_toByteS.l0 : Nat → List Int → List Int → Int → Option (List Int)
  | 0, _, _, _ => none
  | k + 1, x0, x3, x4 => if x4 < (x0.length : Int) then (if 0 ≤ x4 then (if x4 < (x3.length : Int) then (laws_toByteS.l0 k x0 (x3.set (x4 : Int).toNat (rd x0 x4)) (wrap64 (x4 + 1))) else (none)) else (none)) else (some x3)
def laws_toByteS.f (k : Nat) (l0 : List Int) : Option (List Int) := if 0 ≤ (l0.length : Int) then (if ((l0.length : Int) : Int).toNat ≤ 281474976710656 then (laws_toByteS.l0 k l0 (List.replicate ((l0.length : Int) : Int).toNat 0) 0) else (none)) else (none)
theorem laws_toByteS.mono_l : ∀ k, (∀ y0 y1 y2, LeO (laws_toByteS.l0 k y0 y1 y2) (laws_toByteS.l0 (k + 1) y0 y1 y2))
  | 0 => fun _ _ _ r h => by simp [laws_toByteS.l0] at h
  | k + 1 => by
    have ih0 := laws_toByteS.mono_l k
    · intro y0 y1 y2
      unfold laws_toByteS.l0
      repeat' first
      | (with_reducible exact ih0 _ _ _)
      | (with_reducible exact LeO.refl _)
      | (with_reducible exact LeO.none _)
      | (with_reducible refine LeO.ite ?_ ?_)
      | (with_reducible refine LeO.bind ?_ (fun _ => ?_))
      | exact ih0 _ _ _
      | exact LeO.none _
      | refine LeO.ite ?_ ?_
      | refine LeO.bind ?_ (fun _ => ?_)
theorem laws_toByteS.mono : ∀ a0 k, LeO (laws_toByteS.f k a0) (laws_toByteS.f (k + 1) a0) := by
  intro a0 k
  have ih0 := laws_toByteS.mono_l k
  unfold laws_toByteS.f
  repeat' first
      | (with_reducible exact ih0 _ _ _)
      | (with_reducible exact LeO.refl _)
      | (with_reducible exact LeO.none _)
      | (with_reducible refine LeO.ite ?_ ?_)
      | (with_reducible refine LeO.bind ?_ (fun _ => ?_))
      | exact ih0 _ _ _
      | exact LeO.none _
      | refine LeO.ite ?_ ?_
      | refine LeO.bind ?_ (fun _ => ?_)
set_option maxHeartbeats 8000000 in
set_option maxRecDepth 100000 in
theorem laws_toByteS.calls (k : Nat) (A0 : Option Addr) (c0 : Nat) (l0 : List Int) (r : List Int) (w : World) (hr0 : Kd.C (Kd.int .u8) w A0 l0.length l0) (hc0 : l0.length ≤ c0) (h : laws_toByteS.f k l0 = some r) :
    Calls Tryd.prog 8 #[.slice A0 l0.length c0] w fun e w' => ∃ v0_ : Value, e = .returned (v0_) ∧ Kd.R (Kd.int .u8) 5 w' w.heap.size (fun _ => True) v0_ r ∧ Below w.heap.size w w' := by
  have HR0 := Aside0.mk hr0
  have HC0 := Aside0.mk hc0
  clear hr0 hc0
  have HB := Aside0.mk (Below.refl w.heap.size w)
  have H : (if 0 ≤ (l0.length : Int) then (if ((l0.length : Int) : Int).toNat ≤ 281474976710656 then (laws_toByteS.l0 k l0 (List.replicate ((l0.length : Int) : Int).toNat 0) 0) else (none)) else (none)) = some r := h
  clear h
  by_cases c2 : 0 ≤ (l0.length : Int)
  · rw [if_pos c2] at H
    have c2b0 := eq_true c2
    have c2b1 : decide (0 ≤ (l0.length : Int)) = true := decide_eq_true c2
    clear c2
    by_cases c3 : ((l0.length : Int) : Int).toNat ≤ 281474976710656
    · rw [if_pos c3] at H
      have c3b0 := eq_true c3
      have c3b1 : decide (((l0.length : Int) : Int).toNat ≤ 281474976710656) = true := decide_eq_true c3
      clear c3
      obtain ⟨y101, hy101⟩ : ∃ y_ : List Int, y_ = (List.replicate ((l0.length : Int) : Int).toNat 0) := ⟨_, rfl⟩
      replace H : (laws_toByteS.l0 k l0 y101 0) = some r := by first | (rw [hy101]; with_reducible exact H) | (have H2_ := (Option.bind_some _ _).symm.trans H; rw [hy101]; with_reducible exact H2_) | (have H2_ := (Option.bind_some _ _).symm.trans H; with_reducible exact H2_) | with_reducible exact H | (rw [hy101]; exact H) | exact H
      have Ny101 := Aside0.mk hy101
      clear hy101
      have H' := Aside0.mk H
      clear H
      go_enter Tryd.func8, Tryd.ntmps8
      go_wp2_with (first | ((with_reducible refine gate_dst (N := 7) rfl ?_); refine Kd.R_make (Kd.int .u8) _ 5 rfl (N := 7) rfl 22 _ _ rfl (l0.length : Int) rfl rfl Tryd.underlying22 (.int .u8 0) 1 info5 rfl (by decide) (by omega) 0 (ok := fun _ => True) (okp := fun _ => True) rfl (fun _ hk => hk) trivial (of_decide_eq_true (by first | (with_reducible assumption) | assumption)) (Nat.le_trans (Nat.mul_le_mul_right _ (of_decide_eq_true (by first | (with_reducible assumption) | assumption) : (l0.length : Int).toNat ≤ 281474976710656)) (by omega)) (Below.refl _ _) (Nat.le_refl _) ?_; intro v102 w4 ho5 hb hg_ hnew_; clear hg_ hnew_; (first | rw [← Ny101.out] at ho5 | (simp only [Int.reduceToNat] at ho5; rw [← Ny101.out] at ho5)); have n0_ := Aside0.mk (Kd.R_lower ho5 (below_size (by repeat (first | (with_reducible first | exact HB.out | apply below_alloc | apply pw_below_drewN | apply below_drew1) | exact HB.out)))); have n1_ := Aside0.mk (below_step (by repeat (first | (with_reducible first | exact HB.out | apply below_alloc | apply pw_below_drewN | apply below_drew1) | exact HB.out)) hb); clear HB; have HO103 := n0_; have HB := n1_; clear n0_ n1_; clear hb ho5))
      go_loopg [4] k (fun kq v4 w' => ∃ (x3_1 : List Int) (x4_1 : Int), v4 = .int .i64 x4_1 ∧ Aside0 (laws_toByteS.l0 kq l0 x3_1 x4_1 = some r) ∧ Aside0 (kq ≤ k) ∧ Aside0 (Kd.R (Kd.int .u8) 5 w' w.heap.size (fun _ => True) v102 x3_1) ∧ Aside0 (Below w.heap.size w w'))
      case atStart => exact ⟨(y101), (0), (by first | rfl | (simp; done) | (simp [*]; done)), H', ⟨Nat.le_refl _⟩, ⟨by (with_reducible repeat (first | apply Kd.R_alloc | apply Kd.R_drewN | apply Kd.R_drew)); exact HO103.out⟩, ⟨by repeat (first | (with_reducible first | exact HB.out | apply below_alloc | apply pw_below_drewN | apply below_drew1) | exact HB.out)⟩⟩
      case round =>
        clear H'
        try clear c2
        try clear c2b0
        try clear c2b1
        try clear p2
        try clear c3
        try clear c3b0
        try clear c3b1
        obtain ⟨x3_1, x4_1, rfl, HA, HK1, HO_3, HB⟩ := hrel
        cases gk with
        | zero => exact absurd HA.out (by simp [laws_toByteS.l0])
        | succ k1 =>
          have H := HA.out
          clear HA
          simp only [laws_toByteS.l0] at H
          by_cases c6 : x4_1 < (l0.length : Int)
          · rw [if_pos c6] at H
            have c6b0 : decide (x4_1 < (l0.length : Int)) = true := decide_eq_true c6
            clear c6
            by_cases c7 : 0 ≤ x4_1
            · rw [if_pos c7] at H
              have c7b0 : decide (0 ≤ x4_1) = true := decide_eq_true c7
              clear c7
              by_cases c8 : x4_1 < (x3_1.length : Int)
              · rw [if_pos c8] at H
                have c8b0 : decide (x4_1 < (x3_1.length : Int)) = true := decide_eq_true c8
                clear c8
                obtain ⟨y105, hy105⟩ : ∃ y_ : List Int, y_ = (x3_1.set (x4_1 : Int).toNat (rd l0 x4_1)) := ⟨_, rfl⟩
                replace H : (laws_toByteS.l0 k1 l0 y105 (wrap64 (x4_1 + 1))) = some r := by first | (rw [hy105]; with_reducible exact H) | (have H2_ := (Option.bind_some _ _).symm.trans H; rw [hy105]; with_reducible exact H2_) | (have H2_ := (Option.bind_some _ _).symm.trans H; with_reducible exact H2_) | with_reducible exact H | (rw [hy105]; exact H) | exact H
                have Ny105 := Aside0.mk hy105
                clear hy105
                have H' := Aside0.mk H
                clear H
                have p104 : 0 ≤ (x4_1 : Int) := of_decide_eq_true (by first | (with_reducible assumption) | assumption)
                have q104 : x4_1 < (l0.length : Int) := of_decide_eq_true (by first | (with_reducible assumption) | assumption)
                obtain ⟨ad104, e104, hx104_0⟩ := Kd.at_int HR0.out x4_1 p104 q104
                cases e104
                replace hx104_0 := (HB.out.cell (World.block_lt_of_cell? w _ hx104_0)).trans hx104_0
                replace p104 := eq_true p104
                replace q104 := eq_true q104
                have p9 : 0 ≤ (x4_1 : Int) := of_decide_eq_true (by first | (with_reducible assumption) | assumption)
                have q9 : (x4_1 : Int) < ((x3_1.length : Int) : Int) := of_decide_eq_true (by first | (with_reducible assumption) | assumption)
                obtain ⟨go9, co9, eo9, gb9, gl9, cl9, HG9⟩ := Kd.R_form HO_3.out (by omega)
                (first | cases eo9 | (injection eo9 with ea_ en_ ec_; (first | subst ea_ | (injection ea_ with ea_; subst ea_)); subst ec_; clear en_))
                have GB9 := Aside0.mk gb9
                have GG9 := Aside0.mk HG9
                clear gb9 gl9 HG9
                obtain ⟨hx9_0, hf9_0⟩ := Kd.R_celln 0 HO_3.out (x4_1 : Int) p9 q9
                replace p9 := eq_true p9
                replace q9 := eq_true q9
                have HP10 := Kd.R_putg HO_3.out (x4_1 : Int) (rd l0 x4_1)
                go_wp2_with (first | ((with_reducible refine gate_store (t := 5) (p := 20) rfl ?_); refine store_event (t := 5) (p := 20) (v := ?vo_w11) (w1 := (wr.setCell ⟨go9, (x4_1 : Int).toNat, none⟩ (.int .u8 (rd l0 x4_1)))) ?hg ?ho ?hn ?hr ?_; (case ho => rfl); (case hg => rfl); (case hn => rfl); (case hr => first | (go_simp; done) | (go_simp; rfl)); intro w11 hw; have hg : wr.grownBy w11 (some go9) := (by rw [hw]; exact HP10.2); have hp_ : Kd.R (Kd.int .u8) 5 w11 w.heap.size (fun _ => True) (.slice (some ⟨go9, 0, none⟩) x3_1.length co9) y105 := (by rw [hw, Ny105.out]; exact HP10.1); clear HP10; have n0_ := Aside0.mk (hp_); have n1_ := Aside0.mk ((by rw [hw]; exact below_set (HB.out) GB9.out : Below w.heap.size w w11)); clear HO_3; clear HB; have HO_3 := n0_; have HB := n1_; clear n0_ n1_; clear hg hw hp_))
                go_roundg k1
                case measure => have := HK1.out; omega
                case rel => exact ⟨(y105), (wrap64 (x4_1 + 1)), (by first | rfl | (simp; done) | (simp [*]; done)), H', ⟨by have := HK1.out; omega⟩, ⟨by (with_reducible repeat (first | apply Kd.R_alloc | apply Kd.R_drewN | apply Kd.R_drew)); exact HO_3.out⟩, ⟨by repeat (first | (with_reducible first | exact HB.out | apply below_alloc | apply pw_below_drewN | apply below_drew1) | exact HB.out)⟩⟩
              · rw [if_neg c8] at H
                exact absurd H (by simp)
            · rw [if_neg c7] at H
              exact absurd H (by simp)
          · rw [if_neg c6] at H
            have c6b0 : decide (x4_1 < (l0.length : Int)) = false := decide_eq_false c6
            clear c6
            obtain rfl := Option.some.inj H
            go_wp2
            go_ret
            exact ⟨_, by first | rfl | (simp [errW_none, errW_some] <;> rfl) | (simp [*, errW_none, errW_some] <;> rfl), by (with_reducible repeat (first | apply Kd.R_alloc | apply Kd.R_drewN | apply Kd.R_drew)); exact HO_3.out, by repeat (first | (with_reducible first | exact HB.out | apply below_alloc | apply pw_below_drewN | apply below_drew1) | exact HB.out)⟩
    · rw [if_neg c3] at H
      exact absurd H (by simp)
  · rw [if_neg c2] at H
    exact absurd H (by simp)

end Go.Proofs.YtlopdegnpbokjaaDoor.F
namespace Go.Proofs.YtlopdegnpbokjaaDoor.F
open Go Go.Shelf Go.RowKit Go.Proofs.YtlopdegnpbokjaaDoorW.PrintWords Go.Proofs.YtlopdegnpbokjaaDoorW.PrintLast Go.Proofs.YtlopdegnpbokjaaDoorW.PrintMore
attribute [local go_sem] max2_int min2_int max_two min_two max_three min_three max_four min_four   -- for this text's walks alone
set_option linter.unusedVariables false
set_option linter.unusedSimpArgs false

/-! ### stands 2 -/
-- stands: binary.BigEndian.AppendUint64 (the shelf's contract, laid)
def app64_ren : Go.Shelf.Ren := ⟨fun | 44 => 31 | n => n, fun | 0 => 0 | 5 => 5 | 22 => 22 | 33 => 60 | 37 => 58 | 45 => 51 | n => n, fun n => n⟩
theorem app64_lays : Go.Proofs.LaysBin.n44 Tryd.prog app64_ren := {
  mixed := by kernel_rfl
  f44 := Tryd.func31.trans (congrArg some (by kernel_rfl))
  t0 := Tryd.underlying0
  a0 := Tryd.isAgg0
  z0 := Tryd.sizeOf0
  v0 := Tryd.zeroValue0
  i0 := by kernel_rfl
  t5 := Tryd.underlying5
  a5 := Tryd.isAgg5
  z5 := Tryd.sizeOf5
  v5 := Tryd.zeroValue5
  i5 := by kernel_rfl
  t22 := Tryd.underlying22
  a22 := Tryd.isAgg22
  z22 := Tryd.sizeOf22
  v22 := Tryd.zeroValue22
  i22 := by kernel_rfl
  t33 := Tryd.underlying60
  a33 := Tryd.isAgg60
  z33 := Tryd.sizeOf60
  v33 := Tryd.zeroValue60
  i33 := by kernel_rfl
  t37 := Tryd.underlying58
  a37 := Tryd.isAgg58
  z37 := Tryd.sizeOf58
  v37 := Tryd.zeroValue58
  i37 := by kernel_rfl
  t45 := Tryd.underlying51
  a45 := Tryd.isAgg51
  z45 := Tryd.sizeOf51
  v45 := Tryd.zeroValue51
  i45 := by kernel_rfl }
theorem beBytes8 (v : Nat) (n : Nat) (hv : v = 8 * n) : Lib.byteCells (Lib.beBytes 8 v) = encs (Value.int .u8) (shaLen n) := by
  subst hv
  have key : ∀ m : Nat, ((m : Nat) : Int) = (m : Int) := fun _ => rfl
  have e0 : ((8 * n % 256 : Nat) : Int) = 8 * (n : Int) % 256 := by omega
  have e1 : ((8 * n / 256 % 256 : Nat) : Int) = 8 * (n : Int) / 256 % 256 := by omega
  have e2 : ((8 * n / 256 / 256 % 256 : Nat) : Int) = 8 * (n : Int) / 65536 % 256 := by omega
  have e3 : ((8 * n / 256 / 256 / 256 % 256 : Nat) : Int) = 8 * (n : Int) / 16777216 % 256 := by omega
  have e4 : ((8 * n / 256 / 256 / 256 / 256 % 256 : Nat) : Int) = 8 * (n : Int) / 4294967296 % 256 := by omega
  have e5 : ((8 * n / 256 / 256 / 256 / 256 / 256 % 256 : Nat) : Int) = 8 * (n : Int) / 1099511627776 % 256 := by omega
  have e6 : ((8 * n / 256 / 256 / 256 / 256 / 256 / 256 % 256 : Nat) : Int) = 8 * (n : Int) / 281474976710656 % 256 := by omega
  have e7 : ((8 * n / 256 / 256 / 256 / 256 / 256 / 256 / 256 % 256 : Nat) : Int) = 8 * (n : Int) / 72057594037927936 % 256 := by omega
  have hs : shaLen n = [8 * (n : Int) / 72057594037927936 % 256, 8 * (n : Int) / 281474976710656 % 256, 8 * (n : Int) / 1099511627776 % 256, 8 * (n : Int) / 4294967296 % 256, 8 * (n : Int) / 16777216 % 256, 8 * (n : Int) / 65536 % 256, 8 * (n : Int) / 256 % 256, 8 * (n : Int) % 256] := by
    simp [shaLen, List.range, List.range.loop]
  rw [hs]
  simp only [encs, Lib.byteCells, Lib.beBytes, Lib.leBytes, List.reverse_cons, List.reverse_nil, List.nil_append, List.cons_append, List.map, Lib.toUInt8_mod, e0, e1, e2, e3, e4, e5, e6, e7]
theorem xApp64.calls (B : Nat) (l : List Int) (n : Nat) (hn : n ≤ 2097152) (sv : Value) (w : World) (hr : Kd.R (Kd.int .u8) 5 w B (fun _ => True) sv l) (hB : B ≤ w.heap.size) (hl : l.length + 8 ≤ 140737488355328) :
    Calls Tryd.prog 31 #[.agg #[], sv, .int .u64 ((8 * n : Nat) : Int)] w fun e w' => ∃ v', e = .returned v' ∧ Kd.R (Kd.int .u8) 5 w' B (fun _ => True) v' (l ++ shaLen n) ∧ Below B w w' := by
  refine (Any.binary_BE_AppendUint64 app64_lays B l.length (8 * n) (by omega) sv (encs (Value.int .u8) l) w (Kd.own_of_R hr) hB hl).mono ?_
  rintro e w' ⟨v', rfl, ho, hb⟩
  refine ⟨v', rfl, ?_, hb⟩
  rw [beBytes8 _ n rfl, ← encs_append] at ho
  have hlen : (l ++ shaLen n).length = l.length + 8 := by rw [List.length_append, shaLen_len]
  rw [← hlen] at ho
  exact Kd.R_of_own ho (fun _ _ => trivial)

end Go.Proofs.YtlopdegnpbokjaaDoor.F
namespace Go.Proofs.YtlopdegnpbokjaaDoor.F
open Go Go.Shelf Go.RowKit Go.Proofs.YtlopdegnpbokjaaDoorW.PrintWords Go.Proofs.YtlopdegnpbokjaaDoorW.PrintLast Go.Proofs.YtlopdegnpbokjaaDoorW.PrintMore
attribute [local go_sem] max2_int min2_int max_two min_two max_three min_three max_four min_four   -- for this text's walks alone
set_option linter.unusedVariables false
set_option linter.unusedSimpArgs false

/-! ### stands 4 -/
-- stands: a call of a closure that holds nothing, in a region that draws its order
theorem goesV_ {P : Program} {ops : Array Oper} {Q : Exit → Act → World → Prop} {oi : Oper} {N : Option Tmp} {a : Act} {w : World} {K : Act → World → Prop} {f : FuncId} {fn : Func} {x : Operand} {xs : Array Operand} {ts : Array TypeId} (hf : P.funcs[f]? = some fn) (hname : (fn.name == "runtime.NumGoroutine") = false) (hb : fn.body.isSome = true) (args : Array Value)
    (hw : Region.wanted oi (yielded ops a.tmps) = true) (hN : oi.dst = N) (hop : oi.op = .call { callee := .value x, args := xs, argTypes := ts }) (hx : a.eval x = .func (.func f) #[] #[]) (hargs : xs.map a.eval = args)
    (h : Calls P f args w fun e w' => ∃ v, e = .returned v ∧ K (a.put N v) w') : if Region.wanted oi (yielded ops a.tmps) = true then Oper.wp P oi a w K Q else K (a.put N undef) w := by
  refine call_ f args hw hN ?_ h
  have he := enters_ hf hname hb args w
  unfold execOp
  simp [hop, resolve, Deferred.ofValue, invoke, hx, hargs, he]

end Go.Proofs.YtlopdegnpbokjaaDoor.F
namespace Go.Proofs.YtlopdegnpbokjaaDoor.F
open Go Go.Shelf Go.RowKit Go.Proofs.YtlopdegnpbokjaaDoorW.PrintWords Go.Proofs.YtlopdegnpbokjaaDoorW.PrintLast Go.Proofs.YtlopdegnpbokjaaDoorW.PrintMore
attribute [local go_sem] max2_int min2_int max_two min_two max_three min_three max_four min_four   -- for this text's walks alone
set_option linter.unusedVariables false
set_option linter.unusedSimpArgs false

/-! ### stands 10 -/
-- stands: binary.BigEndian.PutUint32 into four cells (the shelf's contract, laid)
def put32_ren : Go.Shelf.Ren := ⟨fun | 40 => 35 | n => n, fun | 0 => 0 | 5 => 5 | 22 => 22 | 29 => 52 | 37 => 58 | 45 => 51 | n => n, fun n => n⟩
theorem put32_lays : Go.Proofs.LaysBin.n40 Tryd.prog put32_ren := {
  mixed := by kernel_rfl
  f40 := Tryd.func35.trans (congrArg some (by kernel_rfl))
  t0 := Tryd.underlying0
  a0 := Tryd.isAgg0
  z0 := Tryd.sizeOf0
  v0 := Tryd.zeroValue0
  i0 := by kernel_rfl
  t5 := Tryd.underlying5
  a5 := Tryd.isAgg5
  z5 := Tryd.sizeOf5
  v5 := Tryd.zeroValue5
  i5 := by kernel_rfl
  t22 := Tryd.underlying22
  a22 := Tryd.isAgg22
  z22 := Tryd.sizeOf22
  v22 := Tryd.zeroValue22
  i22 := by kernel_rfl
  t29 := Tryd.underlying52
  a29 := Tryd.isAgg52
  z29 := Tryd.sizeOf52
  v29 := Tryd.zeroValue52
  i29 := by kernel_rfl
  t37 := Tryd.underlying58
  a37 := Tryd.isAgg58
  z37 := Tryd.sizeOf58
  v37 := Tryd.zeroValue58
  i37 := by kernel_rfl
  t45 := Tryd.underlying51
  a45 := Tryd.isAgg51
  z45 := Tryd.sizeOf51
  v45 := Tryd.zeroValue51
  i45 := by kernel_rfl }
theorem xPut32.calls (g c : Nat) (v : Int) (h0 : 0 ≤ v) (h1 : v < 4294967296) (x0 x1 x2 x3 : Value) (w : World)
    (c0 : w.cell? ⟨g, 0, none⟩ = some x0) (c1 : w.cell? ⟨g, 1, none⟩ = some x1) (c2 : w.cell? ⟨g, 2, none⟩ = some x2) (c3 : w.cell? ⟨g, 3, none⟩ = some x3)
    (f0 : w.frozen? ⟨g, 0, none⟩ = false) (f1 : w.frozen? ⟨g, 1, none⟩ = false) (f2 : w.frozen? ⟨g, 2, none⟩ = false) (f3 : w.frozen? ⟨g, 3, none⟩ = false) (hg : g < w.heap.size) :
    Calls Tryd.prog 35 #[.agg #[], .slice (some ⟨g, 0, none⟩) 4 c, .int .u32 v] w fun e w' => e = .returned (.tuple #[]) ∧ ReadsInt w' .u8 (some ⟨g, 0, none⟩) 4 [v / 16777216, v / 65536 % 256, v / 256 % 256, v % 256] ∧ Below g w w' := by
  obtain ⟨v, rfl⟩ := Int.eq_ofNat_of_zero_le h0
  refine (Any.binary_BE_PutUint32 put32_lays g 0 4 c v (by omega) x0 x1 x2 x3 w (by decide) c0 c1 c2 c3 f0 f1 f2 f3).mono ?_
  rintro e w' ⟨rfl, rfl⟩
  have d0 := cell?_alloc_old (.cells #[] (put32_ren.t 37)) c0
  have d1 := cell?_alloc_old (.cells #[] (put32_ren.t 37)) c1
  have d2 := cell?_alloc_old (.cells #[] (put32_ren.t 37)) c2
  have d3 := cell?_alloc_old (.cells #[] (put32_ren.t 37)) c3
  have e0 : ((v % 256 : Nat) : Int) = (v : Int) % 256 := by omega
  have e1 : ((v / 256 % 256 : Nat) : Int) = (v : Int) / 256 % 256 := by omega
  have e2 : ((v / 256 / 256 % 256 : Nat) : Int) = (v : Int) / 65536 % 256 := by omega
  have e3 : ((v / 256 / 256 / 256 % 256 : Nat) : Int) = (v : Int) / 16777216 := by omega
  have hb : Lib.byteCells (Lib.beBytes 4 v) = [Value.int .u8 ((v : Int) / 16777216), Value.int .u8 ((v : Int) / 65536 % 256), Value.int .u8 ((v : Int) / 256 % 256), Value.int .u8 ((v : Int) % 256)] := by
    simp only [Lib.byteCells, Lib.beBytes, Lib.leBytes, List.reverse_cons, List.reverse_nil, List.nil_append, List.cons_append, List.map, Lib.toUInt8_mod, e0, e1, e2, e3]
  rw [hb]
  have hin := World.cell?_setCells_in g [Value.int .u8 ((v : Int) / 16777216), Value.int .u8 ((v : Int) / 65536 % 256), Value.int .u8 ((v : Int) / 256 % 256), Value.int .u8 ((v : Int) % 256)] 0 (w.alloc (.cells #[] (put32_ren.t 37))) (by
    intro j hj
    simp only [List.length_cons, List.length_nil] at hj
    rcases (show j = 0 ∨ j = 1 ∨ j = 2 ∨ j = 3 by omega) with rfl | rfl | rfl | rfl
    · rw [Nat.zero_add, d0]; rfl
    · rw [Nat.zero_add, d1]; rfl
    · rw [Nat.zero_add, d2]; rfl
    · rw [Nat.zero_add, d3]; rfl)
  refine ⟨rfl, ⟨rfl, by decide, fun _ => ⟨_, rfl, fun j hj => ?_⟩⟩, below_setCells (Nat.le_refl _) _ _ _ ((below_alloc (Below.refl w.heap.size w) _).mono (by omega))⟩
  rw [add_plain, ← Nat.zero_add j]
  rw [hin j hj]
  rcases (show j = 0 ∨ j = 1 ∨ j = 2 ∨ j = 3 by omega) with rfl | rfl | rfl | rfl <;> rfl

end Go.Proofs.YtlopdegnpbokjaaDoor.F
namespace Go.Proofs.YtlopdegnpbokjaaDoor.F
open Go Go.Shelf Go.RowKit Go.Proofs.YtlopdegnpbokjaaDoorW.PrintWords Go.Proofs.YtlopdegnpbokjaaDoorW.PrintLast Go.Proofs.YtlopdegnpbokjaaDoorW.PrintMore
attribute [local go_sem] max2_int min2_int max_two min_two max_three min_three max_four min_four   -- for this text's walks alone
set_option linter.unusedVariables false
set_option linter.unusedSimpArgs false

/-! ### stands 18 -/
-- stands: PutUint32 into a row of bytes, at a place; the sum's numbers
theorem ArrI.set4 {q : IntKind} {w : World} {g : Nat} {t : TypeId} {xs : List Int} (h : ArrI q w g t xs) (o : Nat) (a b c d : Int) :
    ArrI q (w.setCells g o [.int q a, .int q b, .int q c, .int q d]) g t ((((xs.set o a).set (o + 1) b).set (o + 2) c).set (o + 3) d) :=
  (((h.set o a).set (o + 1) b).set (o + 2) c).set (o + 3) d
theorem xPut32n.calls (g o n c : Nat) (hn : 4 ≤ n) (v : Int) (h0 : 0 ≤ v) (h1 : v < 4294967296) (t : TypeId) (xs : List Int) (w : World) (hA : ArrI .u8 w g t xs) (ho : o + 4 ≤ xs.length) :
    Calls Tryd.prog 35 #[.agg #[], .slice (some ⟨g, o, none⟩) n c, .int .u32 v] w fun e w' => e = .returned (.tuple #[]) ∧ ArrI .u8 w' g t ((((xs.set o (v / 16777216)).set (o + 1) (v / 65536 % 256)).set (o + 2) (v / 256 % 256)).set (o + 3) (v % 256)) ∧ Below g w w' := by
  obtain ⟨v, rfl⟩ := Int.eq_ofNat_of_zero_le h0
  refine (Any.binary_BE_PutUint32 put32_lays g o n c v (by omega) _ _ _ _ w hn (hA.cell o (by omega)) (hA.cell (o + 1) (by omega)) (hA.cell (o + 2) (by omega)) (hA.cell (o + 3) (by omega)) (hA.frozen o) (hA.frozen (o + 1)) (hA.frozen (o + 2)) (hA.frozen (o + 3))).mono ?_
  rintro e w' ⟨rfl, rfl⟩
  have e0 : ((v % 256 : Nat) : Int) = (v : Int) % 256 := by omega
  have e1 : ((v / 256 % 256 : Nat) : Int) = (v : Int) / 256 % 256 := by omega
  have e2 : ((v / 256 / 256 % 256 : Nat) : Int) = (v : Int) / 65536 % 256 := by omega
  have e3 : ((v / 256 / 256 / 256 % 256 : Nat) : Int) = (v : Int) / 16777216 := by omega
  have hb : Lib.byteCells (Lib.beBytes 4 v) = [Value.int .u8 ((v : Int) / 16777216), Value.int .u8 ((v : Int) / 65536 % 256), Value.int .u8 ((v : Int) / 256 % 256), Value.int .u8 ((v : Int) % 256)] := by
    simp only [Lib.byteCells, Lib.beBytes, Lib.leBytes, List.reverse_cons, List.reverse_nil, List.nil_append, List.cons_append, List.map, Lib.toUInt8_mod, e0, e1, e2, e3]
  rw [hb]
  refine ⟨rfl, ArrI.set4 (hA.alloc _) o _ _ _ _, ?_⟩
  have hlt := hA.lt
  exact below_setCells (Nat.le_refl _) _ _ _ ((below_alloc (Below.refl w.heap.size w) _).mono (by omega))
theorem addN_rng (h v : List Int) (hh : ∀ x ∈ h, 0 ≤ x ∧ x < 4294967296) : ∀ i, ∀ x ∈ addN h v i, 0 ≤ x ∧ x < 4294967296 := by
  intro i
  induction i with
  | zero => exact hh
  | succ i ih =>
    intro x hx
    rw [addN] at hx
    rcases List.mem_or_eq_of_mem_set hx with h1 | h1
    · exact ih x h1
    · rw [h1]; omega
theorem shaN_rng (t : List Int) : ∀ b, ∀ x ∈ shaN t b, 0 ≤ x ∧ x < 4294967296 := by
  intro b
  induction b with
  | zero => exact (show ∀ x ∈ shaH0, 0 ≤ x ∧ x < 4294967296 by decide)
  | succ b ih => rw [shaN]; exact addN_rng _ _ ih 8
theorem shaN_at (t : List Int) (b k : Nat) (hk : k < 8) : 0 ≤ rdN (shaN t b) k ∧ rdN (shaN t b) k < 4294967296 := by
  have hl : k < (shaN t b).length := by rw [shaN_len]; exact hk
  have : rdN (shaN t b) k = (shaN t b)[k] := by simp [rdN, List.getD_eq_getElem?_getD, hl]
  rw [this]
  exact shaN_rng t b _ (List.getElem_mem hl)
theorem outN_4 (h : List Int) (k : Nat) (h0 : 0 ≤ rdN h k) (h1 : rdN h k < 4294967296) :
    outN h (4 * (k + 1)) = ((((outN h (4 * k)).set (4 * k) (rdN h k / 16777216)).set (4 * k + 1) (rdN h k / 65536 % 256)).set (4 * k + 2) (rdN h k / 256 % 256)).set (4 * k + 3) (rdN h k % 256) := by
  have e0 : outV h (4 * k) = rdN h k / 16777216 := by
    unfold outV; rw [show 4 * k / 4 = k by omega, show 24 - 8 * (4 * k % 4) = 24 by omega]; omega
  have e1 : outV h (4 * k + 1) = rdN h k / 65536 % 256 := by
    unfold outV; rw [show (4 * k + 1) / 4 = k by omega, show 24 - 8 * ((4 * k + 1) % 4) = 16 by omega]; omega
  have e2 : outV h (4 * k + 2) = rdN h k / 256 % 256 := by
    unfold outV; rw [show (4 * k + 2) / 4 = k by omega, show 24 - 8 * ((4 * k + 2) % 4) = 8 by omega]; omega
  have e3 : outV h (4 * k + 3) = rdN h k % 256 := by
    unfold outV; rw [show (4 * k + 3) / 4 = k by omega, show 24 - 8 * ((4 * k + 3) % 4) = 0 by omega]; omega
  show outN h (4 * k + 3 + 1) = _
  rw [outN, e3, outN, e2, outN, e1, outN, e0]
theorem idx8 (h : List Int) (k : Nat) (h8 : h.length = 8) (hk : k < 8) (W : World) : (Instr.index 53 (.agg (h.map (Value.int .u32)).toArray) (.int .i64 (k : Int))).run Tryd.prog W = .ok (.int .u32 (rdN h k)) W := by
  obtain ⟨a0, a1, a2, a3, a4, a5, a6, a7, rfl⟩ := len8 h h8
  rcases (show k = 0 ∨ k = 1 ∨ k = 2 ∨ k = 3 ∨ k = 4 ∨ k = 5 ∨ k = 6 ∨ k = 7 by omega) with rfl | rfl | rfl | rfl | rfl | rfl | rfl | rfl <;> kernel_rfl
theorem built8 (a0 a1 a2 a3 a4 a5 a6 a7 : Int) : Tryd.prog.built 53 [(0, .int .u32 a0), (1, .int .u32 a1), (2, .int .u32 a2), (3, .int .u32 a3), (4, .int .u32 a4), (5, .int .u32 a5), (6, .int .u32 a6), (7, .int .u32 a7)] = some #[.int .u32 a0, .int .u32 a1, .int .u32 a2, .int .u32 a3, .int .u32 a4, .int .u32 a5, .int .u32 a6, .int .u32 a7] := by kernel_rfl

end Go.Proofs.YtlopdegnpbokjaaDoor.F
